/- What is proved: contracts and plain facts that the law leans on (texts put together). Conditions: as each names them. -/
import Derived.Test.YtccfiohagbneaaaGreatDoorM5
import Derived.Lib.AppendIntMem
import Derived.Lib.ItoaLen
import Derived.Lib.AtoiErrMem
set_option linter.unusedSimpArgs false
set_option linter.unusedVariables false
set_option linter.unusedSectionVars false
set_option maxHeartbeats 64000000
set_option maxRecDepth 100000
namespace Go.Proofs.YtccfiohagbneaaaGreatDoor
open Go Go.J Go.RowKit
def rootE (r : Int) : List UInt8 := if r = 0 then [104, 117, 98] else if 1 ≤ r ∧ r ≤ 6 then [115, UInt8.ofNat (48 + r.toNat)] else []
def fsA (a : Ac) : Fs := ⟨rootE a.root ++ 47 :: a.path, a.kind, a.data⟩
theorem root_in {r : Int} (h : 0 ≤ r ∧ r ≤ 6) : r = 0 ∨ r = 1 ∨ r = 2 ∨ r = 3 ∨ r = 4 ∨ r = 5 ∨ r = 6 := Zo
theorem root_vol {r : Int} (h : 0 ≤ r ∧ r ≤ 6) : VolOk (rootE r) := by
 rcases root_in h with rfl | rfl | rfl | rfl | rfl | rfl | rfl <;> exact ⟨by decide +kernel, by decide +kernel⟩
theorem root_inj {r s : Int} (h : 0 ≤ r ∧ r ≤ 6) (k : 0 ≤ s ∧ s ≤ 6) (e : rootE r = rootE s) : r = s := by
 rcases root_in h with rfl | rfl | rfl | rfl | rfl | rfl | rfl <;> rcases root_in k with rfl | rfl | rfl | rfl | rfl | rfl | rfl <;> first | rfl | exact absurd e (by decide +kernel)
theorem snoc_ind {α : Type} {P : List α → Prop} (h0 : P []) (h1 : ∀ l a, P l → P (l ++ [a])) (l : List α) : P l := by
 have : ∀ l : List α, P l.reverse := by
  intro l
  induction l with
  |nil => exact h0
  |cons a l ih => rw [List.reverse_cons]; exact h1 _ _ ih
 have := this l.reverse
 rwa [List.reverse_reverse] at this
theorem lastA_snoc (l : List Ac) (a : Ac) (k : Int × List UInt8) : lastA (l ++ [a]) k = if keyA a = k then some a else lastA l k := by
 unfold lastA; rw [List.foldl_append]; rfl
theorem lastA_cases (l : List Ac) (k : Int × List UInt8) : (lastA l k = none ∧ ∀ a ∈ l, keyA a ≠ k) ∨ ∃ a ∈ l, keyA a = k ∧ lastA l k = some a := by
 refine snoc_ind (P := fun l => (lastA l k = none ∧ ∀ a ∈ l, keyA a ≠ k) ∨ ∃ a ∈ l, keyA a = k ∧ lastA l k = some a) ?_ (fun l a ih => ?_) l
 ·exact .inl ⟨rfl, fun a ha => by cases ha⟩
 ·rw [lastA_snoc]
  by_cases h : keyA a = k
  ·rw [if_pos h]; exact .inr ⟨a, by simp, h, rfl⟩
  ·rw [if_neg h]
   rcases ih with ⟨h1, h2⟩ | ⟨b, h1, h2, h3⟩
   ·refine .inl ⟨h1, fun b hb => ?_⟩
    rcases List.mem_append.1 hb with hb | hb
    ·exact h2 b hb
    ·rw [List.mem_singleton.1 hb]; exact h
   ·exact .inr ⟨b, List.mem_append_left _ h1, h2, h3⟩
theorem lastA_none {l : List Ac} {k : Int × List UInt8} (h : ∀ a ∈ l, keyA a ≠ k) : lastA l k = none := by
 rcases lastA_cases l k with ⟨h1, _⟩ | ⟨a, h1, h2, _⟩
 ·exact h1
 ·exact absurd h2 (h a h1)
theorem lastA_uniq {l : List Ac} {a0 : Ac} (h : ∀ a ∈ l, keyA a = keyA a0 → a = a0) (hm : a0 ∈ l) : lastA l (keyA a0) = some a0 := by
 rcases lastA_cases l (keyA a0) with ⟨_, h2⟩ | ⟨a, h1, h2, h3⟩
 ·exact absurd rfl (h2 a0 hm)
 ·rw [h3, h a h1 h2]
theorem lastA_app (l m : List Ac) (k : Int × List UInt8) : lastA (l ++ m) k = match lastA m k with
  |some a => some a
  |none => lastA l k := by
 refine snoc_ind (P := fun m => lastA (l ++ m) k = match lastA m k with
  |some a => some a
  |none => lastA l k) ?_ (fun m a ih => ?_) m
 ·rw [List.append_nil]; rfl
 ·rw [← List.append_assoc, lastA_snoc, lastA_snoc]
  split
  ·rfl
  ·exact ih
def remA (root : Int) (old now : List Ent) : List Ac := (old.reverse.filter fun x => decide ((getT now x.path).kind ≠ x.kind)).map fun x => ⟨root, x.path, 0, []⟩
def putA (root : Int) (old now : List Ent) : List Ac := (now.filter fun x => decide (nodeT old x.path ≠ (x.kind, x.data))).map fun x => ⟨root, x.path, x.kind, x.data⟩
def actE (root : Int) (old now : List Ent) : List Ac := remA root old now ++ putA root old now
structure TreeW (t : List Ent) : Prop where
 ok : TreeOk t
section
variable {root : Int} {old now : List Ent} {a : Ac} {q : List UInt8}
theorem mem_rem : a ∈ remA root old now ↔ ∃ x ∈ old, (getT now x.path).kind ≠ x.kind ∧ a = ⟨root, x.path, 0, []⟩ := by
 unfold remA
 rw [List.mem_map]
 constructor
 ·rintro ⟨x, hx, rfl⟩
  obtain ⟨h1, h2⟩ := List.mem_filter.1 hx
  exact ⟨x, List.mem_reverse.1 h1, of_decide_eq_true h2, rfl⟩
 ·rintro ⟨x, h1, h2, rfl⟩
  exact ⟨x, List.mem_filter.2 ⟨List.mem_reverse.2 h1, decide_eq_true h2⟩, rfl⟩
theorem mem_put : a ∈ putA root old now ↔ ∃ x ∈ now, nodeT old x.path ≠ (x.kind, x.data) ∧ a = ⟨root, x.path, x.kind, x.data⟩ := by
 unfold putA
 rw [List.mem_map]
 constructor
 ·rintro ⟨x, hx, rfl⟩
  obtain ⟨h1, h2⟩ := List.mem_filter.1 hx
  exact ⟨x, h1, of_decide_eq_true h2, rfl⟩
 ·rintro ⟨x, h1, h2, rfl⟩
  exact ⟨x, List.mem_filter.2 ⟨h1, decide_eq_true h2⟩, rfl⟩
theorem act_root (h : a ∈ actE root old now) : a.root = root := by
 rcases List.mem_append.1 h with h | h
 ·obtain ⟨x, _, _, rfl⟩ := mem_rem.1 h; rfl
 ·obtain ⟨x, _, _, rfl⟩ := mem_put.1 h; rfl
theorem last_act (ho : TreeOk old) (hn : TreeOk now) (q : List UInt8) : lastA (actE root old now) (root, q) = if nodeT old q = nodeT now q then none else some ⟨root, q, (nodeT now q).1, (nodeT now q).2⟩ := by
 have ro := of_rise ho.rise
 have rn := of_rise hn.rise
 have kz : ∀ x ∈ old, x.kind ≠ 0 := fun x hx => by
  obtain ⟨i, hi, rfl⟩ := List.getElem_of_mem hx
  exact (ho i hi).kind
 by_cases h : nodeT old q = nodeT now q
 ·rw [if_pos h]
  refine lastA_none fun a ha e => ?_
  rcases List.mem_append.1 ha with ha | ha
  ·obtain ⟨x, h1, h2, rfl⟩ := mem_rem.1 ha
   have e : x.path = q := congrArg Prod.snd e
   have h3 := nodeT_mem ro h1
   rw [e, h] at h3
   rw [e] at h2
   exact h2 (congrArg Prod.fst h3)
  ·obtain ⟨x, h1, h2, rfl⟩ := mem_put.1 ha
   have e : x.path = q := congrArg Prod.snd e
   have h3 := nodeT_mem rn h1
   rw [e] at h3 h2
   exact h2 (h.trans h3)
 ·rw [if_neg h]
  show lastA (remA root old now ++ putA root old now) (root, q) = _
  rw [lastA_app]
  rcases getT_cases now q with ⟨x, hx, hp, hg⟩ | ⟨hno, hg⟩
  ·have hnx := nodeT_mem rn hx
   rw [hp] at hnx
   have hm : (⟨root, q, (nodeT now q).1, (nodeT now q).2⟩ : Ac) ∈ putA root old now := mem_put.2 ⟨x, hx, by rw [hp, ← hnx]; exact h, by rw [hnx, hp]⟩
   have := lastA_uniq (l := putA root old now) (a0 := ⟨root, q, (nodeT now q).1, (nodeT now q).2⟩) (fun b hb e => by
    obtain ⟨y, h1, h2, rfl⟩ := mem_put.1 hb
    have e : y.path = q := congrArg Prod.snd e
    have h3 := nodeT_mem rn h1
    rw [e] at h3
    rw [h3, e]) hm
   rw [show ((root, q) : Int × List UInt8) = keyA ⟨root, q, (nodeT now q).1, (nodeT now q).2⟩ from rfl, this]
  ·have h0 : nodeT now q = (0, []) := nodeT_no hno
   rw [lastA_none (l := putA root old now) fun b hb e => by
    obtain ⟨y, h1, h2, rfl⟩ := mem_put.1 hb
    exact hno y h1 (congrArg Prod.snd e)]
   rw [h0] at h ⊢
   rcases getT_cases old q with ⟨x, hx, hp, hg2⟩ | ⟨hno2, hg2⟩
   ·exact lastA_uniq (l := remA root old now) (a0 := ⟨root, q, 0, []⟩) (fun b hb e => by
     obtain ⟨y, h1, h2, rfl⟩ := mem_rem.1 hb
     have e : y.path = q := congrArg Prod.snd e
     rw [e]) (mem_rem.2 ⟨x, hx, by rw [hp, hg]; exact (kz x hx).symm, by rw [hp]⟩)
   ·exact absurd (nodeT_no hno2) h
end
structure Two (D : Dk) (r1 r2 : Int) (o1 o2 n1 n2 : List Ent) : Prop where
 w : DkW D
 q1 : 0 ≤ r1 ∧ r1 ≤ 6
 q2 : 0 ≤ r2 ∧ r2 ≤ 6
 ne : r1 ≠ r2
 d1 : (D.at (rootE r1)).dir = true
 d2 : (D.at (rootE r2)).dir = true
 t1 : TreeOk o1
 t2 : TreeOk o2
 u1 : TreeOk n1
 u2 : TreeOk n2
 h1 : ∀ q, nodeD D (rootE r1) q = nodeT o1 q
 h2 : ∀ q, nodeD D (rootE r2) q = nodeT o2 q
def twoA (r1 r2 : Int) (o1 o2 n1 n2 : List Ent) : List Ac := actE r1 o1 n1 ++ actE r2 o2 n2
def twoF (r1 r2 : Int) (o1 o2 n1 n2 : List Ent) : List Fs := (finalE (twoA r1 r2 o1 o2 n1 n2)).map fsA
theorem tree_node {t : List Ent} (h : TreeOk t) {q : List UInt8} (hk : (nodeT t q).1 ≠ 0) : checkE q 5 = 0 ∧ (parentE q ≠ [] → (nodeT t (parentE q)).1 = 1) := by
 rcases getT_cases t q with ⟨x, hx, hp, hg⟩ | ⟨hno, hg⟩
 ·obtain ⟨i, hi, rfl⟩ := List.getElem_of_mem hx
  have hc := (h i hi).path
  rw [hp] at hc
  refine ⟨hc, fun hne => ?_⟩
  have := (tree_refOk h i hi).up
  rw [hp] at this
  exact this hne
 ·rw [nodeT_no hno] at hk; exact absurd rfl hk
theorem tree_whole {t : List Ent} (h : TreeOk t) (q : List UInt8) : ((nodeT t q).1 = 0 ∨ (nodeT t q).1 = 1 ∨ (nodeT t q).1 = 2) ∧ ((nodeT t q).1 ≠ 2 → (nodeT t q).2 = []) ∧ (nodeT t q).2.length ≤ 4096 := by
 rcases getT_cases t q with ⟨x, hx, hp, hg⟩ | ⟨hno, hg⟩
 ·obtain ⟨i, hi, rfl⟩ := List.getElem_of_mem hx
  have hw := (h i hi).whole
  unfold nodeT
  rw [hg]
  unfold wholeE at hw
  split at hw
  ·rename_i h0
   have hd := of_decide_eq_true hw
   refine ⟨?_, fun _ => hd, ?_⟩
   ·show t[i].kind = 0 ∨ t[i].kind = 1 ∨ t[i].kind = 2
    rcases h0 with h0 | h0
    ·exact .inl h0
    ·exact .inr (.inl h0)
   ·show t[i].data.length ≤ _
    rw [hd]; exact Nat.zero_le _
  ·split at hw
   ·rename_i h2
    exact ⟨.inr (.inr h2), fun hn => absurd h2 hn, of_decide_eq_true hw⟩
   ·cases hw
 ·rw [nodeT_no hno]
  exact ⟨.inl rfl, fun _ => rfl, Nat.zero_le _⟩
section
variable {D : Dk} {r1 r2 : Int} {o1 o2 n1 n2 : List Ent} {q : List UInt8}
theorem Two.last1 (h : Two D r1 r2 o1 o2 n1 n2) (q : List UInt8) : lastA (twoA r1 r2 o1 o2 n1 n2) (r1, q) = if nodeT o1 q = nodeT n1 q then none else some ⟨r1, q, (nodeT n1 q).1, (nodeT n1 q).2⟩ := by
 unfold twoA
 rw [lastA_app, lastA_none (l := actE r2 o2 n2) fun a ha e => h.ne ((congrArg Prod.fst e).symm.trans (act_root ha))]
 exact last_act h.t1 h.u1 q
theorem Two.last2 (h : Two D r1 r2 o1 o2 n1 n2) (q : List UInt8) : lastA (twoA r1 r2 o1 o2 n1 n2) (r2, q) = if nodeT o2 q = nodeT n2 q then none else some ⟨r2, q, (nodeT n2 q).1, (nodeT n2 q).2⟩ := by
 have h1 : lastA (actE r1 o1 n1) (r2, q) = none := lastA_none fun a ha e => h.ne ((act_root ha).symm.trans (congrArg Prod.fst e))
 unfold twoA
 rw [lastA_app, last_act h.t2 h.u2 q, h1]
 by_cases e : nodeT o2 q = nodeT n2 q
 ·rw [if_pos e]
 ·rw [if_neg e]
theorem Two.final (h : Two D r1 r2 o1 o2 n1 n2) {a : Ac} (ha : a ∈ finalE (twoA r1 r2 o1 o2 n1 n2)) :
  (a = ⟨r1, a.path, (nodeT n1 a.path).1, (nodeT n1 a.path).2⟩ ∧ nodeT o1 a.path ≠ nodeT n1 a.path) ∨ (a = ⟨r2, a.path, (nodeT n2 a.path).1, (nodeT n2 a.path).2⟩ ∧ nodeT o2 a.path ≠ nodeT n2 a.path) := by
 have h1 := findG_mem actO (final_rise _) ha
 rw [final_find] at h1
 have hr : a.root = r1 ∨ a.root = r2 := by
  rcases lastA_cases (twoA r1 r2 o1 o2 n1 n2) (keyA a) with ⟨h2, _⟩ | ⟨b, hb, h2, h3⟩
  ·rw [h2] at h1; cases h1
  ·have hab : b.root = a.root := congrArg Prod.fst h2
   rcases List.mem_append.1 hb with hb | hb
   ·exact .inl (hab.symm.trans (act_root hb))
   ·exact .inr (hab.symm.trans (act_root hb))
 rcases hr with hr | hr
 ·have hk : keyA a = (r1, a.path) := Prod.ext hr rfl
  rw [hk, h.last1] at h1
  by_cases e : nodeT o1 a.path = nodeT n1 a.path
  ·rw [if_pos e] at h1; cases h1
  ·rw [if_neg e] at h1
   exact .inl ⟨(Option.some.inj h1).symm, e⟩
 ·have hk : keyA a = (r2, a.path) := Prod.ext hr rfl
  rw [hk, h.last2] at h1
  by_cases e : nodeT o2 a.path = nodeT n2 a.path
  ·rw [if_pos e] at h1; cases h1
  ·rw [if_neg e] at h1
   exact .inr ⟨(Option.some.inj h1).symm, e⟩
theorem Two.rootIn (h : Two D r1 r2 o1 o2 n1 n2) {a : Ac} (ha : a ∈ finalE (twoA r1 r2 o1 o2 n1 n2)) : 0 ≤ a.root ∧ a.root ≤ 6 := by
 rcases h.final ha with ⟨e, _⟩ | ⟨e, _⟩
 ·rw [e]; exact h.q1
 ·rw [e]; exact h.q2
theorem diff_path {o n : List Ent} (ho : TreeOk o) (hn : TreeOk n) {q : List UInt8} (h : nodeT o q ≠ nodeT n q) : checkE q 5 = 0 := by
 rcases Classical.em ((nodeT n q).1 = 0) with h1 | h1
 ·refine (tree_node ho (q := q) fun h2 => h ?_).1
  have e1 := (tree_whole ho q).2.1 Zo
  have e2 := (tree_whole hn q).2.1 Zo
  exact Prod.ext (h2.trans h1.symm) (e1.trans e2.symm)
 ·exact (tree_node hn h1).1
theorem Two.pathOk (h : Two D r1 r2 o1 o2 n1 n2) {a : Ac} (ha : a ∈ finalE (twoA r1 r2 o1 o2 n1 n2)) : checkE a.path 5 = 0 := by
 rcases h.final ha with ⟨_, e⟩ | ⟨_, e⟩
 ·exact diff_path h.t1 h.u1 e
 ·exact diff_path h.t2 h.u2 e
theorem fsA_inj {a b : Ac} (ha : 0 ≤ a.root ∧ a.root ≤ 6) (hb : 0 ≤ b.root ∧ b.root ≤ 6) (e : (fsA a).p = (fsA b).p) : keyA a = keyA b := by
 obtain ⟨h1, h2⟩ := split47 (root_vol ha).no47 (root_vol hb).no47 e
 exact Prod.ext (root_inj ha hb h1) h2
theorem Two.new1 (h : Two D r1 r2 o1 o2 n1 n2) (q : List UInt8) : newN D (twoF r1 r2 o1 o2 n1 n2) (rootE r1 ++ 47 :: q) = nodeT n1 q := by
 have hl := h.last1 q
 rw [← final_find] at hl
 rcases newN_cases D (twoF r1 r2 o1 o2 n1 n2) (rootE r1 ++ 47 :: q) with ⟨f, hf, hp, hn⟩ | ⟨hno, hn⟩
 ·obtain ⟨a, ha, rfl⟩ := List.mem_map.1 hf
  have hk := fsA_inj (b := ⟨r1, q, 0, []⟩) (h.rootIn ha) h.q1 hp
  have h1 := findG_mem actO (final_rise _) ha
  rw [hk, show keyA ⟨r1, q, 0, []⟩ = (r1, q) from rfl, hl] at h1
  rw [hn]
  split at h1
  ·cases h1
  ·rw [← Option.some.inj h1]
   rfl
 ·rw [hn]
  split at hl
  ·rename_i e
   rw [← e]; exact h.h1 q
  ·obtain ⟨h1, h2⟩ := findG_some hl
   exact absurd rfl (hno (fsA ⟨r1, q, (nodeT n1 q).1, (nodeT n1 q).2⟩) (List.mem_map_of_mem h1))
theorem Two.new2 (h : Two D r1 r2 o1 o2 n1 n2) (q : List UInt8) : newN D (twoF r1 r2 o1 o2 n1 n2) (rootE r2 ++ 47 :: q) = nodeT n2 q := by
 have hl := h.last2 q
 rw [← final_find] at hl
 rcases newN_cases D (twoF r1 r2 o1 o2 n1 n2) (rootE r2 ++ 47 :: q) with ⟨f, hf, hp, hn⟩ | ⟨hno, hn⟩
 ·obtain ⟨a, ha, rfl⟩ := List.mem_map.1 hf
  have hk := fsA_inj (b := ⟨r2, q, 0, []⟩) (h.rootIn ha) h.q2 hp
  have h1 := findG_mem actO (final_rise _) ha
  rw [hk, show keyA ⟨r2, q, 0, []⟩ = (r2, q) from rfl, hl] at h1
  rw [hn]
  split at h1
  ·cases h1
  ·rw [← Option.some.inj h1]
   rfl
 ·rw [hn]
  split at hl
  ·rename_i e
   rw [← e]; exact h.h2 q
  ·obtain ⟨h1, h2⟩ := findG_some hl
   exact absurd rfl (hno (fsA ⟨r2, q, (nodeT n2 q).1, (nodeT n2 q).2⟩) (List.mem_map_of_mem h1))
theorem Two.newO (h : Two D r1 r2 o1 o2 n1 n2) {y : List UInt8} (h1 : belB (rootE r1) y = false) (h2 : belB (rootE r2) y = false) : newN D (twoF r1 r2 o1 o2 n1 n2) y = ndE (D.get y) := by
 refine newN_no fun f hf e => ?_
 obtain ⟨a, ha, rfl⟩ := List.mem_map.1 hf
 have e : rootE a.root ++ 47 :: a.path = y := e
 rcases h.final ha with ⟨e2, _⟩ | ⟨e2, _⟩
 ·rw [show a.root = r1 by rw [e2]] at e
  rw [← e, bel_app] at h1; cases h1
 ·rw [show a.root = r2 by rw [e2]] at e
  rw [← e, bel_app] at h2; cases h2
theorem bel_root {r : Int} (hr : 0 ≤ r ∧ r ≤ 6) (s : Int) (hs : 0 ≤ s ∧ s ≤ 6) : belB (rootE r) (rootE s) = false := by
 cases hb : belB (rootE r) (rootE s) with
 |false => rfl
 |true =>
  obtain ⟨q, hq⟩ := bel_iff.1 hb
  exact absurd (by rw [hq]; simp) (root_vol hs).no47
theorem nodup_of_pairwise {α : Type} {R : α → α → Prop} {l : List α} (h : l.Pairwise R) (hne : ∀ a b, R a b → a ≠ b) : l.Nodup := h.imp fun {a b} hr => hne a b hr
theorem ltA_ne {x y : Int × List UInt8} (h : ltA x y = true) : x ≠ y := fun e => by rw [e, actO.irr] at h; cases h
theorem Two.plan (h : Two D r1 r2 o1 o2 n1 n2) : Plan D (twoF r1 r2 o1 o2 n1 n2) := by
 have hrise := final_rise (twoA r1 r2 o1 o2 n1 n2)
 refine ⟨h.w, ?_, fun f hf => ?_, fun f hf => ?_, ?_, fun y hy1 hy2 hk hd => ?_⟩
 ·unfold twoF
  rw [List.map_map]
  refine nodup_map_on (fun a ha b hb e => ?_) (nodup_of_pairwise hrise fun a b hr e => ltA_ne hr (congrArg keyA e))
  have hk := fsA_inj (h.rootIn ha) (h.rootIn hb) e
  have h1 := findG_mem actO hrise ha
  have h2 := findG_mem actO hrise hb
  rw [hk, h2] at h1
  exact (Option.some.inj h1).symm
 ·obtain ⟨a, ha, rfl⟩ := List.mem_map.1 hf
  have hv := root_vol (h.rootIn ha)
  have hp := h.pathOk ha
  obtain ⟨m1, m2, m3⟩ := vol_nsys (q := a.path) hv
  exact ⟨vol_check hv hp, vol_deep1 hv (check_ne hp), m2, m3⟩
 ·obtain ⟨a, ha, rfl⟩ := List.mem_map.1 hf
  rcases h.final ha with ⟨e, _⟩ | ⟨e, _⟩
  ·obtain ⟨g1, g2, _⟩ := tree_whole h.u1 a.path
   rw [e]; exact ⟨g1, g2⟩
  ·obtain ⟨g1, g2, _⟩ := tree_whole h.u2 a.path
   rw [e]; exact ⟨g1, g2⟩
 ·unfold twoF
  rw [List.pairwise_map]
  refine List.Pairwise.imp_of_mem (fun {a b} ha hb hr e => ?_) hrise
  have hva := root_vol (h.rootIn ha)
  have hvb := root_vol (h.rootIn hb)
  have e : parentE (rootE a.root ++ 47 :: a.path) = rootE b.root ++ 47 :: b.path := e
  rw [vol_parent hva (h.pathOk ha)] at e
  split at e
  ·exact absurd (by rw [e]; simp) hva.no47
  ·rename_i hne
   obtain ⟨e1, e2⟩ := split47 hva.no47 hvb.no47 e
   have e1 := root_inj (h.rootIn ha) (h.rootIn hb) e1
   have h3 := parent_less hne
   have hr : ltA (a.root, a.path) (b.root, b.path) = true := hr
   unfold ltA at hr
   rw [if_pos e1] at hr
   have hr : Op.bytesLess a.path b.path = true := hr
   rw [← e2, less_asym h3] at hr
   cases hr
 ·have side : ∀ (r : Int) (o n : List Ent), 0 ≤ r ∧ r ≤ 6 → TreeOk n → (∀ q, newN D (twoF r1 r2 o1 o2 n1 n2) (rootE r ++ 47 :: q) = nodeT n q) → newN D (twoF r1 r2 o1 o2 n1 n2) (rootE r) = ndE (D.get (rootE r)) → (D.at (rootE r)).dir = true → belB (rootE r) y = true → (newN D (twoF r1 r2 o1 o2 n1 n2) (parentE y)).1 = 1 := by
   intro r o n hr hn hnew hself hdir hb
   obtain ⟨q, rfl⟩ := bel_iff.1 hb
   rw [hnew] at hk
   obtain ⟨g1, g2⟩ := tree_node hn hk
   rw [vol_parent (root_vol hr) g1]
   split
   ·rw [hself]; exact dir_kind.1 hdir
   ·rename_i hne
    rw [hnew]; exact g2 hne
  by_cases b1 : belB (rootE r1) y = true
  ·exact side r1 o1 n1 h.q1 h.u1 h.new1 (h.newO (bel_root h.q1 _ h.q1) (bel_root h.q2 _ h.q1)) h.d1 b1
  by_cases b2 : belB (rootE r2) y = true
  ·exact side r2 o2 n2 h.q2 h.u2 h.new2 (h.newO (bel_root h.q1 _ h.q2) (bel_root h.q2 _ h.q2)) h.d2 b2
  have b1 : belB (rootE r1) y = false := by simpa using b1
  have b2 : belB (rootE r2) y = false := by simpa using b2
  rw [h.newO b1 b2] at hk
  have hh := has_kind.2 hk
  have hu := under_kind.1 (h.w.up y hh)
  have hpar : (ndE (D.get (parentE y))).1 = 1 := hu.resolve_left hd
  have hyok := h.w.ok y hh
  have hpb : belB (parentE y) y = true := by
   obtain ⟨p1, p2, _⟩ := parts y ((checkE_iff y 6).1 hyok).2
   have hbn : baseE y ≠ [] := fun e => by rw [e] at p2; simp [nameB] at p2
   have hpn : parentE y ≠ [] := fun e => by
    rw [e] at hpar
    obtain ⟨x, hx, _⟩ := kind_one.1 hpar
    exact ok_ne (h.w.ok [] (has_of_get hx)) rfl
   rw [joinE_ne hpn hbn] at p1
   exact bel_iff.2 ⟨baseE y, by rw [List.append_assoc] at p1; exact p1.symm⟩
  rw [h.newO ?_ ?_]
  ·exact hpar
  ·cases hb : belB (rootE r1) (parentE y) with
   |false => rfl
   |true => rw [bel_trans hb hpb] at b1; cases b1
  ·cases hb : belB (rootE r2) (parentE y) with
   |false => rfl
   |true => rw [bel_trans hb hpb] at b2; cases b2
end
open Go Go.J Go.RowKit
def parB (p k : List UInt8) : Bool := decide (parentE k = p)
theorem dlist_c {q mb lb : Nat} {D : Dk} (p : List UInt8) {w0 : World} (hi : InL w0 [dkC q mb lb D]) (hn : D.items.length ≤ 1048576) (hkk : ∀ x ∈ D.items, x.1.length ≤ 1099511627) :
  Cal Tryz.prog 165 [.pointer (some ⟨q, 0, none⟩), str p] w0 (fun v w' => ∃ A cap, v = .slice A (D.list p).length cap ∧ MutL w0 w' [dkC q mb lb D] [dkC q mb lb D, .own (.slice A (D.list p).length cap) 9 1 (D.list p).length (strs (D.list p))]) := by
 refine Cal.mkL hi Zk Tryz.func165 rfl rfl fun hS => ?_
 obtain ⟨h1, h2, h3, hS⟩ := St.dkOpen hS
 replace hS : St w0 (fps [dkC q mb lb D]) w0 [.box q 122 [.map (some mb), .map (some lb), .int .i64 D.steps, .int .i64 D.stamps, .int .i64 D.armed, .bool D.down], mapC mb (mmap encIt D.items), mapC lb (mmap encI D.limits)] (ZL w0 [dkC q mb lb D]) := hS
 have hLs : D.list p = sortL ((D.items.map Prod.fst).filter (parB p)) := rfl
 repeat' (first | (show WL _ _ _ _ _ _ _; first | refine WL.pure rfl rfl rfl rfl ?_ | refine WL.nil ?_ | refine WL.load hS rfl rfl (LdOk.box (by repeat (first | exact Zh | apply List.Mem.tail)) rfl) rfl rfl rfl ?_ | (refine WL.slit (t := 56) hS rfl rfl rfl rfl rfl ?_; intro w ob hS; have hS := hS.boxRow (n := 0) (size := 1) .here rfl (Nat.zero_le _)) | (refine WL.mrange hS rfl rfl rfl (fun r => Rp) rfl rfl rfl ?_; intro w r hS)) | (show WC _ _ _ _ _ _; first | refine WC.seq ?_ | refine WC.region ?_ | refine WC.block ?_ | refine WC.skip ?_ | refine WC.condF rfl Zr ?_) | refine seqQ_n ?_)
 replace hS := hS.droplast2 (D := [.own (.slice (some ⟨ob, 0, none⟩) 0 0) 9 1 0 [], rngC mb r (mmap encIt D.items) (mmap encIt D.items) none, .box q 122 [.map (some mb), .map (some lb), .int .i64 D.steps, .int .i64 D.stamps, .int .i64 D.armed, .bool D.down], mapC lb (mmap encI D.limits)]) Pu
 refine WC.loop (σ := List (List UInt8) × KV × Option (List UInt8 × Value) × Option Addr × Nat) [1, 15] (fun (d, left, cur, A, cap) => [(5, .slice A d.length cap)])
  (fun (d, left, cur, A, cap) w => (d ++ (left.map Prod.fst).filter (parB p)).Perm ((D.items.map Prod.fst).filter (parB p)) ∧ d.length + left.length ≤ D.items.length ∧ (∀ x ∈ left, x.1.length ≤ 1099511627) ∧ St w0 (fps [dkC q mb lb D]) w [.own (.slice A d.length cap) 9 1 d.length (strs d), rngC mb r (mmap encIt D.items) left cur, .box q 122 [.map (some mb), .map (some lb), .int .i64 D.steps, .int .i64 D.stamps, .int .i64 D.armed, .bool D.down], mapC lb (mmap encI D.limits)] (ZL w0 [dkC q mb lb D]))
  (fun (d, left, cur, A, cap) => left.length) ([], mmap encIt D.items, none, some ⟨ob, 0, none⟩, 0) ⟨by rw [mmap_fst]; exact .refl _, by unfold mmap; simp, fun x hx => by
   unfold mmap at hx
   obtain ⟨y, hy, rfl⟩ := List.mem_map.1 hx
   exact hkk y hy, hS⟩ ⟨rfl, trivial⟩ ?_
 clear hS
 rintro ⟨d, left, cur, A, cap⟩ g w ⟨hpm, hdl, hlk, hS⟩
 show WC _ _ _ (lf _ [(5, .slice A d.length cap)] _ _) _ _
 rcases left with _ | ⟨x, left⟩
 ·rw [List.map_nil, List.filter_nil, List.append_nil] at hpm
  have hsl : sortL d = D.list p := by rw [hLs]; exact sort_perm hpm
  have hsn : d.length = (D.list p).length := by rw [← hsl, sortL_len]
  simp only [List.length_nil, Nat.add_zero] at hdl
  clear hLs
  repeat' (first | (show WL _ _ _ _ _ _ _; first | refine WL.pure rfl rfl rfl rfl ?_ | refine WL.nil ?_ | (refine WL.mnext hS rfl rfl (fun l' p => Rp) rfl rfl rfl (fun _ => ?_) (fun l1 k v l2 h => absurd h (by simp))) | (refine WL.callL (D := [.own (.slice A d.length cap) 9 1 d.length (strs d)]) hS Pu rfl rfl (fun hI => sort_c hI.head hI.headB Zo) rfl rfl rfl ?_; rintro v w ⟨rfl, hm⟩ hS; replace hS := hS _ (.of1 hm); clear hm)) | (show WC _ _ _ _ _ _; first | refine WC.seq ?_ | refine WC.region ?_ | refine WC.exit ?_ | refine WC.ret ?_ | refine WC.condF rfl Zr ?_) | refine seqQ_n ?_ | refine seqQ_x ?_ | refine blkQ_hit rfl ?_ | refine rndQ_x ?_)
  have hS := hS.rngEnd (H' := [.own (.slice A d.length cap) 9 1 d.length (strs (sortL d)), mapC mb (mmap encIt D.items), .box q 122 [.map (some mb), .map (some lb), .int .i64 D.steps, .int .i64 D.stamps, .int .i64 D.armed, .bool D.down], mapC lb (mmap encI D.limits)]) Rp
  have hS := St.dkClose D h1 h2 h3 (hS.pulls (D := [.box q 122 [.map (some mb), .map (some lb), .int .i64 D.steps, .int .i64 D.stamps, .int .i64 D.armed, .bool D.down], mapC mb (mmap encIt D.items), mapC lb (mmap encI D.limits)]) Pu)
  rw [hsl, hsn] at hS
  exact fin1r rfl rfl ⟨A, cap, by rw [hsn], hS.mutLp Pu⟩
 ·have hcap := (hS.own_len Zh).2.2
  repeat' (first | (show WL _ _ _ _ _ _ _; first | refine WL.pure rfl rfl rfl rfl ?_ | refine WL.nil ?_ | (refine WL.mnext hS rfl rfl (fun l' p => Rp) rfl rfl rfl (fun h => absurd h (by simp)) (fun l1 k v l2 hleft w hS => ?_); have hkl : k.length ≤ 1099511627 := hlk (k, v) (by rw [hleft]; simp)) | (refine WL.mentry hS rfl rfl (by repeat (first | exact Zh | apply List.Mem.tail)) rfl rfl rfl ?_) | (refine WL.calls hS rfl rfl (pparent_c k _ Zo) rfl rfl rfl ?_; rintro v w rfl hS) | (refine WL.app hS rfl rfl rfl rfl (RdOk.box (by repeat (first | exact Zh | apply List.Mem.tail))) rfl rfl (fun A cap => Rp) Zo rfl rfl rfl ?_; intro A3 cap3 w hS) | (refine WL.slit hS rfl rfl rfl rfl rfl ?_; intro w b hS)) | (show WC _ _ _ _ _ _; first | refine WC.seq ?_ | refine WC.region ?_ | refine WC.block ?_ | refine WC.skip ?_ | refine WC.condT rfl Zr ?_ | (refine WC.cond rfl (fun h => ?_) (fun h => ?_) <;> (try simp only [Ya,Yb,Yc,Yd,Ye,Yf,Yg,Yh,Yi,Yj,Yk,Yl,Ym,Yn,Yo,Yp] at h) <;> (try exact Zx))) | refine seqQ_n ?_ | refine blkQ_n ?_)
  all_goals
   have hlk2 : ∀ x ∈ l1 ++ l2, x.1.length ≤ 1099511627 := fun y hy => hlk y (by
    rw [hleft]
    rcases List.mem_append.1 hy with hy | hy
    ·exact List.mem_append_left _ hy
    ·exact List.mem_append_right _ (List.mem_cons_of_mem _ hy))
   rw [hleft] at hpm hdl
   have hpm2 : (d ++ ((k :: (l1 ++ l2).map Prod.fst).filter (parB p))).Perm ((D.items.map Prod.fst).filter (parB p)) := by
    refine List.Perm.trans ?_ hpm
    refine List.Perm.append_left d (List.Perm.filter _ ?_)
    rw [List.map_append, List.map_append, List.map_cons]
    exact List.perm_middle.symm
  ·have hb : parB p k = true := decide_eq_true h
   rw [List.filter_cons_of_pos hb] at hpm2
   exact rndQ_n (d ++ [k], l1 ++ l2, some (k, _), A3, cap3) ⟨by rw [List.append_assoc]; exact hpm2, by simp at hdl ⊢; omega, hlk2, by
    have hS := hS.drop
    rw [List.length_append, ← strs_snoc]
    exact hS⟩ (by show (l1 ++ l2).length < (x :: left).length; rw [hleft]; simp) ⟨by rw [List.length_append]; rfl, trivial⟩ ⟨rfl, rfl, trivial⟩
  ·have hb : ¬ parB p k = true := by unfold parB; rw [decide_eq_false h]; decide
   rw [List.filter_cons_of_neg hb] at hpm2
   exact rndQ_n (d, l1 ++ l2, some (k, _), A, cap) ⟨hpm2, by simp at hdl ⊢; omega, hlk2, hS⟩ (by show (l1 ++ l2).length < (x :: left).length; rw [hleft]; simp) ⟨rfl, trivial⟩ ⟨rfl, rfl, trivial⟩
theorem dremove_c {q mb lb : Nat} {D : Dk} (p : List UInt8) {w0 : World} (hi : InL w0 [dkC q mb lb D]) (hl : p.length ≤ 1099511627) (hn : D.items.length ≤ 1048576) (hkk : ∀ x ∈ D.items, x.1.length ≤ 1099511627) :
  Cal Tryz.prog 115 [.pointer (some ⟨q, 0, none⟩), str p] w0 (fun v w' => v = .int .i64 (D.remove p).1 ∧ MutL w0 w' [dkC q mb lb D] [dkC q mb lb (D.remove p).2]) := by
 refine Cal.mkL hi Zk Tryz.func115 rfl rfl fun hS => ?_
 have hlk := look_it2 D.items p
 have hls := fun (w : World) (hI : InL w [dkC q mb lb D]) => dlist_c p hI hn hkk
 have hll : (D.list p).length ≤ 1048576 := by
  unfold Dk.list
  rw [sortL_len]
  refine Nat.le_trans (List.length_filter_le _ _) ?_
  rw [List.length_map]; exact hn
 have hre : D.remove p = if D.may p 0 ≠ 0 then (D.may p 0, D) else if (mget D.items p).isSome = false then (11, D) else if 0 < (D.list p).length then (12, D) else if D.stepE ≠ 0 then (D.stepE, D.step) else (0, D.step.del p) := rfl
 rw [hre]
 clear hre
 generalize (mget D.items p).isSome = has at *
 generalize (mget D.items p).getD It0 = it at *
 generalize D.list p = L at *
 obtain ⟨dir, dat, kept, loose, anew, stamp⟩ := it
 by_cases he : D.may p 0 = 0
 ·rw [if_neg (fun h => h he)]
  cases has with
  |false =>
   rw [if_pos rfl]
   repeat' (first | (show WL _ _ _ _ _ _ _; first | refine WL.pure rfl rfl rfl rfl ?_ | refine WL.nil ?_ | (refine WL.calls hS rfl rfl (may_c p 0 (hS.holds (dkC q mb lb D) (by repeat (first | exact Zh | apply List.Mem.tail))).1 hl) rfl rfl rfl ?_; rintro v w rfl hS; rw [he]) | (refine WL.load hS rfl rfl (LdOk.dk (D := D) (by repeat (first | exact Zh | apply List.Mem.tail)) rfl) rfl rfl rfl ?_) | (refine WL.mget hS rfl rfl rfl rfl (MapOk.dk (D := D) (by repeat (first | exact Zh | apply List.Mem.tail))) hlk rfl rfl rfl ?_) | (refine WL.store hS rfl rfl rfl Sb rfl rfl rfl ?_; intro w hS) | (refine WL.alloc hS rfl rfl rfl rfl rfl rfl ?_; intro w b hS)) | (show WC _ _ _ _ _ _; first | refine WC.seq ?_ | refine WC.region ?_ | refine WC.skip ?_ | refine WC.ret ?_ | refine WC.condT rfl Zd ?_ | refine WC.condF rfl Zd ?_) | refine seqQ_n ?_ | refine seqQ_r ?_)
   exact fin1r rfl rfl ⟨rfl, hS.mutLp Pu⟩
  |true =>
   rw [if_neg (by simp)]
   by_cases h0 : 0 < L.length
   ·rw [if_pos h0]
    repeat' (first | (show WL _ _ _ _ _ _ _; first | refine WL.pure rfl rfl rfl rfl ?_ | refine WL.nil ?_ | (refine WL.calls hS rfl rfl (may_c p 0 (hS.holds (dkC q mb lb D) (by repeat (first | exact Zh | apply List.Mem.tail))).1 hl) rfl rfl rfl ?_; rintro v w rfl hS; rw [he]) | (refine WL.load hS rfl rfl (LdOk.dk (D := D) (by repeat (first | exact Zh | apply List.Mem.tail)) rfl) rfl rfl rfl ?_) | (refine WL.mget hS rfl rfl rfl rfl (MapOk.dk (D := D) (by repeat (first | exact Zh | apply List.Mem.tail))) hlk rfl rfl rfl ?_) | (refine WL.callL (D := [dkC q mb lb D]) hS Pu rfl rfl (fun hI => hls _ hI) rfl rfl rfl ?_; rintro v w ⟨A, cap, rfl, hm⟩ hS; replace hS := hS _ hm; clear hm) | (refine WL.store hS rfl rfl rfl Sb rfl rfl rfl ?_; intro w hS) | (refine WL.alloc hS rfl rfl rfl rfl rfl rfl ?_; intro w b hS)) | (show WC _ _ _ _ _ _; first | refine WC.seq ?_ | refine WC.region ?_ | refine WC.skip ?_ | refine WC.ret ?_ | refine WC.condF rfl Zd ?_ | refine WC.condT rfl (decide_eq_true Zw) ?_) | refine seqQ_n ?_ | refine seqQ_r ?_)
    exact fin1r rfl rfl ⟨rfl, hS.mutLp Pu⟩
   ·rw [if_neg h0]
    by_cases hs : D.stepE = 0
    ·rw [if_neg (fun h => h hs)]
     repeat' (first | (show WL _ _ _ _ _ _ _; first | refine WL.pure rfl rfl rfl rfl ?_ | refine WL.nil ?_ | (refine WL.calls hS rfl rfl (may_c p 0 (hS.holds (dkC q mb lb D) (by repeat (first | exact Zh | apply List.Mem.tail))).1 hl) rfl rfl rfl ?_; rintro v w rfl hS; rw [he]) | (refine WL.load hS rfl rfl (LdOk.dk (D := D) (by repeat (first | exact Zh | apply List.Mem.tail)) rfl) rfl rfl rfl ?_) | (refine WL.load hS rfl rfl (LdOk.dk (D := D.step) (by repeat (first | exact Zh | apply List.Mem.tail)) rfl) rfl rfl rfl ?_) | (refine WL.mget hS rfl rfl rfl rfl (MapOk.dk (D := D) (by repeat (first | exact Zh | apply List.Mem.tail))) hlk rfl rfl rfl ?_) | (refine WL.callL (D := [dkC q mb lb D]) hS Pu rfl rfl (fun hI => hls _ hI) rfl rfl rfl ?_; rintro v w ⟨A, cap, rfl, hm⟩ hS; replace hS := hS _ hm; clear hm) | (refine WL.callL (D := [dkC q mb lb D]) hS Pu rfl rfl (fun hI => step_c (D := D) hI.head hI.headB) rfl rfl rfl ?_; rintro v w ⟨rfl, hm⟩ hS; replace hS := hS _ (.of1 hm); clear hm; rw [hs]) | (obtain ⟨h1, h2, h3, hS⟩ := St.dkOpen (St.pull (c := dkC q mb lb D.step) hS Pl1); refine WL.mdel0 hS rfl rfl rfl rfl Rp rfl rfl ?_; clear hS; intro w hS; have hS := St.dkDel h1 h2 h3 hS) | (refine WL.store hS rfl rfl rfl Sb rfl rfl rfl ?_; intro w hS) | (refine WL.alloc hS rfl rfl rfl rfl rfl rfl ?_; intro w b hS)) | (show WC _ _ _ _ _ _; first | refine WC.seq ?_ | refine WC.region ?_ | refine WC.skip ?_ | refine WC.ret ?_ | refine WC.condF rfl Zd ?_ | refine WC.condF rfl (decide_eq_false Zw) ?_) | refine seqQ_n ?_)
     exact fin1r rfl rfl ⟨rfl, hS.mutLp Pu⟩
    ·have hs2 : D.stepE = 14 := by unfold Dk.stepE at hs ⊢; split at hs <;> simp_all
     rw [if_pos hs, hs2]
     clear hs
     repeat' (first | (show WL _ _ _ _ _ _ _; first | refine WL.pure rfl rfl rfl rfl ?_ | refine WL.nil ?_ | (refine WL.calls hS rfl rfl (may_c p 0 (hS.holds (dkC q mb lb D) (by repeat (first | exact Zh | apply List.Mem.tail))).1 hl) rfl rfl rfl ?_; rintro v w rfl hS; rw [he]) | (refine WL.load hS rfl rfl (LdOk.dk (D := D) (by repeat (first | exact Zh | apply List.Mem.tail)) rfl) rfl rfl rfl ?_) | (refine WL.mget hS rfl rfl rfl rfl (MapOk.dk (D := D) (by repeat (first | exact Zh | apply List.Mem.tail))) hlk rfl rfl rfl ?_) | (refine WL.callL (D := [dkC q mb lb D]) hS Pu rfl rfl (fun hI => hls _ hI) rfl rfl rfl ?_; rintro v w ⟨A, cap, rfl, hm⟩ hS; replace hS := hS _ hm; clear hm) | (refine WL.callL (D := [dkC q mb lb D]) hS Pu rfl rfl (fun hI => step_c (D := D) hI.head hI.headB) rfl rfl rfl ?_; rintro v w ⟨rfl, hm⟩ hS; replace hS := hS _ (.of1 hm); clear hm; rw [hs2]) | (refine WL.store hS rfl rfl rfl Sb rfl rfl rfl ?_; intro w hS) | (refine WL.alloc hS rfl rfl rfl rfl rfl rfl ?_; intro w b hS)) | (show WC _ _ _ _ _ _; first | refine WC.seq ?_ | refine WC.region ?_ | refine WC.skip ?_ | refine WC.ret ?_ | refine WC.condT rfl Zd ?_ | refine WC.condF rfl Zd ?_ | refine WC.condF rfl (decide_eq_false Zw) ?_) | refine seqQ_n ?_ | refine seqQ_r ?_)
     exact fin1r rfl rfl ⟨rfl, hS.mutLp Pu⟩
 ·rw [if_pos he]
  repeat' (first | (show WL _ _ _ _ _ _ _; first | refine WL.pure rfl rfl rfl rfl ?_ | refine WL.nil ?_ | (refine WL.calls hS rfl rfl (may_c p 0 (hS.holds (dkC q mb lb D) (by repeat (first | exact Zh | apply List.Mem.tail))).1 hl) rfl rfl rfl ?_; rintro v w rfl hS)) | (show WC _ _ _ _ _ _; first | refine WC.seq ?_ | refine WC.region ?_ | refine WC.ret ?_ | refine WC.condT rfl (decide_eq_true Zw) ?_) | refine seqQ_n ?_ | refine seqQ_r ?_)
  exact fin1r rfl rfl ⟨rfl, hS.mutLp Pu⟩
theorem dstamp_c {b mb lb : Nat} {D : Dk} (p : List UInt8) {w0 : World} (h : DkIs b mb lb D w0) : Cal Tryz.prog 197 [.pointer (some ⟨b, 0, none⟩), str p] w0
  (fun v w' => Upd [] w0 w' ∧ v = .int .i64 (D.at p).stamp) := by
 refine Cal.mk' Zk Tryz.func197 rfl rfl fun hS => ?_
 obtain ⟨_, _, _, hb, hm, hlm⟩ := h
 have hb : w0.heap[b]? = some (.cells ⟨[.map (some mb), .map (some lb), .int .i64 D.steps, .int .i64 D.stamps, .int .i64 D.armed, .bool D.down]⟩ 122 (0, 0)) := hb
 unfold Dk.at
 have hlk := look_it D.items p
 generalize (mget D.items p).getD It0 = it at *
 obtain ⟨dir, data, kept, loose, anew, stamp⟩ := it
 repeat' (first | (show WL _ _ _ _ _ _ _; first | refine WL.pure rfl rfl rfl rfl ?_ | refine WL.nil ?_ | (refine WL.load hS rfl rfl (LdOk.old hb (by repeat (first | exact Zh | apply List.Mem.tail)) rfl) rfl rfl rfl ?_) | (refine WL.mget hS rfl rfl rfl rfl (MapOk.old hm (by repeat (first | exact Zh | apply List.Mem.tail))) hlk rfl rfl rfl ?_)) | (show WC _ _ _ _ _ _; first | refine WC.seq ?_ | refine WC.region ?_ | refine WC.skip ?_ | refine WC.ret ?_ | refine WC.condF rfl Zr ?_) | refine seqQ_n ?_)
 exact fin1r rfl rfl ⟨hS.upd, rfl⟩
end Go.Proofs.YtccfiohagbneaaaGreatDoor

namespace Go.J
open Go Go.RowKit
end Go.J
namespace Go.Proofs.YtccfiohagbneaaaGreatDoor
open Go Go.J Go.RowKit
abbrev powT (w : World) : Prop := Lib.TabIs Tryz.prog w "internal/strconv.uint64pow10" .u64 Lib.pow10Tab
theorem itoa_c (n : Int) (h0 : -9223372036854775808 ≤ n) (h1 : n ≤ 9223372036854775807) (w0 : World) (ht : powT w0) : Cal Tryz.prog 157 [.int .i64 n] w0 (fun v w' => Upd [] w0 w' ∧ v = str (Lib.itoa n)) :=
 ⟨Zk, (Any.strconv_Itoa Tryz.itoaL n h0 h1 w0 ht).mono fun e w' ⟨h1, k, os, h2⟩ => ⟨_, h1, by rw [h2]; exact .of_below (Lib.below_grow _ _ (Nat.le_refl _) _ _), rfl⟩⟩
structure PowI (w : World) (F : List Nat) : Prop where
 tab : powT w
 out : ∀ g, Tryz.prog.globalNamed "internal/strconv.uint64pow10" = some g → g < w.heap.size ∧ g ∉ F
theorem PowI.of {w : World} (h : powT w) : PowI w [] := by
 refine ⟨h, fun g hg => ⟨?_, by simp⟩⟩
 unfold powT Lib.TabIs World.var? at h
 simp only [hg, Option.bind_some] at h
 rcases Nat.lt_or_ge g w.heap.size with h' | h'
 ·exact h'
 ·simp [Array.getElem?_eq_none h'] at h
section
variable {w0 w : World} {M : List Nat} {H H' D : List Chunk} {Z : List Snap}
theorem PowI.at (hp : PowI w0 M) (hS : St w0 M w H Z) : powT w := by
 have h := hp.tab
 unfold powT Lib.TabIs World.var? at h ⊢
 cases hg : Tryz.prog.globalNamed "internal/strconv.uint64pow10" with
 |none => simp [hg] at h
 |some g =>
  obtain ⟨h1, h2⟩ := hp.out g hg
  simp only [hg, Option.bind_some] at h ⊢
  rw [hS.upd.block g h1 h2]
  exact h
theorem PowI.pull (hp : PowI w0 M) (hS : St w0 M w H Z) (hP : Pulls D H H') : PowI w (fps D) := by
 refine ⟨hp.at hS, fun g hg => ?_⟩
 obtain ⟨h1, h2⟩ := hp.out g hg
 refine ⟨Nat.lt_of_lt_of_le h1 hS.upd.size, fun hm => ?_⟩
 obtain ⟨c, hc, hb⟩ := mem_fps.1 hm
 have h3 := (hS.pulls hP).inb c (List.mem_append_left _ hc) g hb
 rcases h3.2 with h | h
 ·omega
 ·exact h2 h
end
open Go Go.J Go.RowKit
abbrev haltE (e : Int) : List PanicEntry := [{ v := .iface 220 (.agg ⟨[.int .i64 e]⟩), recovered := false }]
theorem must_c (e : Int) (w0 : World) : CalP Tryz.prog 114 [.int .i64 e] w0 (fun v w' => Upd [] w0 w' ∧ e = 0) (fun c w' => Upd [] w0 w' ∧ c = haltE e ∧ e ≠ 0) := by
 refine CalP.mkL (D := []) ⟨by simp, by simp, by simp⟩ Zk Tryz.func114 rfl rfl fun hS => ?_
 have hS : St w0 [] w0 [] [⟨w0, Old w0⟩] := .init w0
 by_cases h0 : e = 0
 ·subst h0
  repeat' (first | (show WL _ _ _ _ _ _ _; first | refine WL.pure rfl rfl rfl rfl ?_ | refine WL.nil ?_) | (show WC _ _ _ _ _ _; first | refine WC.seq ?_ | refine WC.region ?_ | refine WC.skip ?_ | refine WC.condF rfl Zd ?_) | refine seqQ_n ?_)
  exact finR (fin0n rfl ⟨hS.upd, rfl⟩)
 ·repeat' (first | (show WL _ _ _ _ _ _ _; first | refine WL.pure rfl rfl rfl rfl ?_ | refine WL.nil ?_ | (refine WL.iface rfl Zk rfl rfl rfl rfl ?_) | (refine WL.panic rfl rfl rfl ?_) | refine WL.build rfl rfl rfl rfl rfl ?_) | (show WC _ _ _ _ _ _; first | refine WC.seq ?_ | refine WC.region ?_ | refine WC.condT rfl (decide_eq_true Zw) ?_) | refine seqQ_n ?_)
  exact finP ⟨hS.upd, rfl, h0⟩
theorem avolume_c (r : Int) (w0 : World) (h0 : -9223372036854775808 ≤ r) (h1 : r ≤ 9223372036854775807) (ht : powT w0) : Cal Tryz.prog 107 [.int .i64 r] w0 (fun v w' => Upd [] w0 w' ∧ v = str (rootE r)) := by
 refine Cal.mk' Zk Tryz.func107 rfl rfl fun hS => ?_
 unfold rootE
 by_cases e0 : r = 0
 ·rw [if_pos e0]
  repeat' (first | (show WL _ _ _ _ _ _ _; first | refine WL.pure rfl rfl rfl rfl ?_ | refine WL.nil ?_) | (show WC _ _ _ _ _ _; first | refine WC.seq ?_ | refine WC.region ?_ | refine WC.block ?_ | refine WC.ret ?_ | refine WC.condT rfl (decide_eq_true Zw) ?_) | refine seqQ_n ?_ | refine seqQ_r ?_ | refine blkQ_r ?_)
  exact fin1r rfl rfl ⟨hS.upd, rfl⟩
 ·rw [if_neg e0]
  by_cases e1 : 1 ≤ r
  ·by_cases e2 : r ≤ 6
   ·rw [if_pos ⟨e1, e2⟩]
    have hit : Lib.itoa r = [UInt8.ofNat (48 + r.toNat)] := by
     have : r = 1 ∨ r = 2 ∨ r = 3 ∨ r = 4 ∨ r = 5 ∨ r = 6 := Zo
     rcases this with rfl | rfl | rfl | rfl | rfl | rfl <;> decide +kernel
    repeat' (first | (show WL _ _ _ _ _ _ _; first | refine WL.pure rfl rfl rfl rfl ?_ | refine WL.nil ?_ | (refine WL.calls hS rfl rfl (itoa_c r h0 h1 _ ((PowI.of ht).at hS)) rfl rfl rfl ?_; rintro v w rfl hS; rw [hit]) | (refine WL.cat rfl rfl rfl (by simp) rfl rfl rfl ?_) | ((fail_if_success (refine WL.wanted rfl ?_)); refine WL.guard rfl rfl rfl (fun h => ?_) (fun h => ?_) <;> (try simp only [Ya,Yb,Yc,Yd,Ye,Yf,Yg,Yh,Yi,Yj,Yk,Yl,Ym,Yn,Yo,Yp] at h) <;> (try exact Zx))) | (show WC _ _ _ _ _ _; first | refine WC.seq ?_ | refine WC.region ?_ | refine WC.block ?_ | refine WC.ret ?_ | refine WC.condT rfl (decide_eq_true Zw) ?_ | refine WC.condF rfl (decide_eq_false Zw) ?_) | refine seqQ_n ?_ | refine seqQ_r ?_ | refine blkQ_r ?_)
    exact fin1r rfl rfl ⟨hS.upd, rfl⟩
   ·rw [if_neg (fun h => e2 h.2)]
    repeat' (first | (show WL _ _ _ _ _ _ _; first | refine WL.pure rfl rfl rfl rfl ?_ | refine WL.nil ?_ | ((fail_if_success (refine WL.wanted rfl ?_)); refine WL.guard rfl rfl rfl (fun h => ?_) (fun h => ?_) <;> (try simp only [Ya,Yb,Yc,Yd,Ye,Yf,Yg,Yh,Yi,Yj,Yk,Yl,Ym,Yn,Yo,Yp] at h) <;> (try exact Zx))) | (show WC _ _ _ _ _ _; first | refine WC.seq ?_ | refine WC.region ?_ | refine WC.block ?_ | refine WC.skip ?_ | refine WC.ret ?_ | refine WC.condF rfl (decide_eq_false Zw) ?_) | refine seqQ_n ?_ | refine blkQ_n ?_)
    exact fin1r rfl rfl ⟨hS.upd, rfl⟩
  ·rw [if_neg (fun h => e1 h.1)]
   repeat' (first | (show WL _ _ _ _ _ _ _; first | refine WL.pure rfl rfl rfl rfl ?_ | refine WL.nil ?_ | refine WL.skip rfl rfl rfl ?_ | ((fail_if_success (refine WL.wanted rfl ?_)); refine WL.guard rfl rfl rfl (fun h => ?_) (fun h => ?_) <;> (try simp only [Ya,Yb,Yc,Yd,Ye,Yf,Yg,Yh,Yi,Yj,Yk,Yl,Ym,Yn,Yo,Yp] at h) <;> (try exact Zx))) | (show WC _ _ _ _ _ _; first | refine WC.seq ?_ | refine WC.region ?_ | refine WC.block ?_ | refine WC.skip ?_ | refine WC.ret ?_ | refine WC.condF rfl Zr ?_ | refine WC.condF rfl (decide_eq_false Zw) ?_) | refine seqQ_n ?_ | refine blkQ_n ?_)
   exact fin1r rfl rfl ⟨hS.upd, rfl⟩
theorem caught_c (e : Int) (w0 : World) : Cal Tryz.prog 111 [.iface 220 (.agg ⟨[.int .i64 e]⟩)] w0 (fun v w' => Upd [] w0 w' ∧ v = .int .i64 e) := by
 refine Cal.mk' Zk Tryz.func111 rfl rfl fun hS => ?_
 repeat' (first | (show WL _ _ _ _ _ _ _; first | (refine WL.assertOk rfl Zk rfl rfl rfl rfl ?_) | refine WL.pure rfl rfl rfl rfl ?_ | refine WL.nil ?_ | refine WL.load hS rfl rfl (LdOk.box (by repeat (first | exact Zh | apply List.Mem.tail)) rfl) rfl rfl rfl ?_ | (refine WL.store hS rfl rfl rfl Sb rfl rfl rfl ?_; intro w hS) | (refine WL.alloc hS rfl rfl rfl rfl rfl rfl ?_; intro w b hS)) | (show WC _ _ _ _ _ _; first | refine WC.seq ?_ | refine WC.region ?_ | refine WC.skip ?_ | refine WC.ret ?_ | refine WC.condF rfl Zd ?_) | refine seqQ_n ?_)
 exact fin1r rfl rfl ⟨hS.upd, rfl⟩
structure DkB (n : Nat) (D : Dk) : Prop where
 lim : D.limits = []
 len : D.items.length ≤ n
 nd : (D.items.map Prod.fst).Nodup
 key : ∀ x ∈ D.items, x.1.length ≤ 1099511627
 data : ∀ y, (D.at y).data.length ≤ 1099511627776
theorem mset_leA {β : Type} : ∀ (m : List (List UInt8 × β)) (p : List UInt8) (v : β), (mset m p v).length ≤ m.length + 1
 |[], _, _ => Nat.le_refl _
 |(k, u) :: m, p, v => by
  unfold mset
  split
  ·simp
  ·have := mset_leA m p v; simp; omega
theorem mset_inA {β : Type} : ∀ {m : List (List UInt8 × β)} {x : List UInt8} {v : β} {p : List UInt8 × β}, p ∈ mset m x v → p ∈ m ∨ p = (x, v)
 |[], x, v, p, h => by simpa [mset] using h
 |(k, u) :: m, x, v, p, h => by
  unfold mset at h
  split at h
  ·rename_i e
   rcases List.mem_cons.1 h with h | h
   ·right; rw [h, e]
   ·left; exact List.mem_cons_of_mem _ h
  ·rcases List.mem_cons.1 h with h | h
   ·left; rw [h]; exact List.mem_cons_self ..
   ·rcases mset_inA h with h | h
    ·left; exact List.mem_cons_of_mem _ h
    ·right; exact h
section
variable {n : Nat} {D : Dk}
theorem DkB.mono {m : Nat} (h : DkB n D) (hm : n ≤ m) : DkB m D := ⟨h.lim, Nat.le_trans h.len hm, h.nd, h.key, h.data⟩
theorem DkB.step (h : DkB n D) : DkB n D.step := ⟨by rw [Dk.step_limits]; exact h.lim, by rw [Dk.step_items]; exact h.len, by rw [Dk.step_items]; exact h.nd, by rw [Dk.step_items]; exact h.key, fun y => by rw [Dk.step_at]; exact h.data y⟩
theorem DkB.put (h : DkB n D) {p : List UInt8} {x : It} (hp : p.length ≤ 1099511627) (hx : x.data.length ≤ 1099511627776) : DkB (n + 1) { D with items := mset D.items p x } :=
 ⟨h.lim, Nat.le_trans (mset_leA _ _ _) (Nat.succ_le_succ h.len), mset_nodup h.nd _ _, fun y hy => by
  rcases mset_inA hy with hy | hy
  ·exact h.key y hy
  ·rw [hy]; exact hp, fun y => by
  rw [Dk.at_get, Dk.get_put]
  split
  ·exact hx
  ·exact h.data y⟩
theorem DkB.set (h : DkB n D) {p : List UInt8} {x : It} (hp : p.length ≤ 1099511627) (hx : x.data.length ≤ 1099511627776) : DkB (n + 1) (D.set p x) := by
 have := DkB.put (x := { x with stamp := IntKind.i64.wrap (D.stamps + 1) }) h hp hx
 exact ⟨this.lim, this.len, this.nd, this.key, this.data⟩
theorem DkB.del (h : DkB n D) {p : List UInt8} : DkB n (D.del p) :=
 ⟨h.lim, Nat.le_trans (mdel_sub _ _).length_le h.len, mdel_nodup h.nd _, fun y hy => h.key y ((mdel_sub _ _).subset hy), fun y => by
  rw [Dk.at_get, Dk.get_del _ h.nd]
  split
  ·exact Nat.zero_le _
  ·exact h.data y⟩
theorem DkB.mkdir (h : DkB n D) {p : List UInt8} (hp : p.length ≤ 1099511627) : DkB (n + 1) (D.mkdir p).2 := by
 unfold Dk.mkdir
 repeat' split
 all_goals first | exact h.mono (Nat.le_succ _) | exact h.step.mono (Nat.le_succ _) | exact h.step.put hp (Nat.zero_le _)
theorem DkB.remove (h : DkB n D) {p : List UInt8} : DkB n (D.remove p).2 := by
 unfold Dk.remove
 repeat' split
 all_goals first | exact h | exact h.step | exact h.step.del
theorem DkB.write (h : DkB n D) {p s : List UInt8} (hp : p.length ≤ 1099511627) (hs : s.length ≤ 1099511627776) : DkB (n + 1) (D.write p s).2 := by
 unfold Dk.write
 repeat' split
 all_goals first | exact h.mono (Nat.le_succ _) | exact h.step.mono (Nat.le_succ _) | exact h.step.set hp hs
theorem DkB.sync (h : DkB n D) {p : List UInt8} (hp : p.length ≤ 1099511627) : DkB (n + 1) (D.sync p).2 := by
 unfold Dk.sync
 repeat' split
 all_goals first | exact h.mono (Nat.le_succ _) | exact h.step.mono (Nat.le_succ _) | exact h.step.put hp (h.step.data p)
theorem DkB.rename (h : DkB n D) {p r : List UInt8} (hr : r.length ≤ 1099511627) : DkB (n + 1) (D.rename p r).2 := by
 unfold Dk.rename
 repeat' split
 all_goals first | exact h.mono (Nat.le_succ _) | exact h.step.mono (Nat.le_succ _) | exact (h.step.del.set hr (h.data p))
theorem DkB.layF (h : DkB n D) {p s : List UInt8} (hp : p.length ≤ 1099511627) (hs : s.length ≤ 1099511627776) : DkB (n + 3) (D.layF p s).2 := by
 have h1 := h.write (p := stgP) Zd hs
 have h2 := h1.sync (p := stgP) Zd
 have h3 := h2.rename (p := stgP) hp
 unfold Dk.layF
 repeat' split
 all_goals first | exact h.mono Zo | exact h1.mono Zo | exact h2.mono Zo | exact h3
def layN (D : Dk) (p : List UInt8) (kind : Int) (data : List UInt8) : Int × Dk := if kind = 1 then (if D.kind p ≠ 1 then D.mkdir p else (0, D)) else if kind = 2 then D.layF p data else (0, D)
theorem DkB.layN (h : DkB n D) {p s : List UInt8} {k : Int} (hp : p.length ≤ 1099511627) (hs : s.length ≤ 1099511627776) : DkB (n + 3) (layN D p k s).2 := by
 unfold Go.Proofs.YtccfiohagbneaaaGreatDoor.layN
 repeat' split
 all_goals first | exact (h.mkdir hp).mono Zo | exact h.layF hp hs | exact h.mono Zo
end
theorem lay_c {q mb lb n : Nat} {D : Dk} (p : List UInt8) (kind : Int) (data : List UInt8) {w0 : World} (hI : InL w0 [dkC q mb lb D]) (hB : DkB n D) (hp : p.length ≤ 1099511627) (hd : data.length ≤ 1099511627776) :
  CalP Tryz.prog 116 [.pointer (some ⟨q, 0, none⟩), str p, .agg ⟨[.int .i64 kind, str data]⟩] w0 (fun v w' => (layN D p kind data).1 = 0 ∧ MutL w0 w' [dkC q mb lb D] [dkC q mb lb (layN D p kind data).2])
   (fun c w' => (layN D p kind data).1 ≠ 0 ∧ c = haltE (layN D p kind data).1 ∧ MutL w0 w' [dkC q mb lb D] [dkC q mb lb (layN D p kind data).2]) := by
 refine CalP.mkL hI Zk Tryz.func116 rfl rfl fun hS => ?_
 unfold layN
 by_cases k1 : kind = 1
 ·subst k1
  rw [if_pos rfl]
  by_cases hk : D.kind p ≠ 1
  ·rw [if_pos hk]
   repeat' (first | (show WL _ _ _ _ _ _ _; first | refine WL.pure rfl rfl rfl rfl ?_ | refine WL.nil ?_ | refine WL.load hS rfl rfl (LdOk.box (by repeat (first | exact Zh | apply List.Mem.tail)) rfl) rfl rfl rfl ?_ | (refine WL.calls hS rfl rfl (dkind_c p (hS.holds (dkC q mb lb D) (by repeat (first | exact Zh | apply List.Mem.tail))).1) rfl rfl rfl ?_; rintro v w rfl hS) | (refine WL.callL (D := [dkC q mb lb D]) hS Pu rfl rfl (fun hI => mkdir_c p hI.head hI.headB hp) rfl rfl rfl ?_; rintro v w ⟨rfl, hm⟩ hS; replace hS := hS _ (.of1 hm); clear hm) | (refine WL.callP0 hS rfl rfl (must_c _ _) rfl rfl rfl (fun v w he hS => ?_) (fun c w he hS => ?_)) | (refine WL.box hS rfl rfl rfl rfl rfl ?_; intro w b hS)) | (show WC _ _ _ _ _ _; first | refine WC.seq ?_ | refine WC.region ?_ | refine WC.block ?_ | refine WC.condT rfl Zd ?_ | refine WC.condT rfl (decide_eq_true Zw) ?_) | (first | refine seqQ_p ?_ | refine blkQ_p ?_ | refine rndQ_p ?_) | refine seqQ_n ?_ | refine blkQ_n ?_)
   ·exact finR (fin0n rfl ⟨he, hS.mutLp Pu⟩)
   ·exact finP ⟨he.2, he.1, hS.mutLp Pu⟩
  ·rw [if_neg hk]
   repeat' (first | (show WL _ _ _ _ _ _ _; first | refine WL.pure rfl rfl rfl rfl ?_ | refine WL.nil ?_ | refine WL.load hS rfl rfl (LdOk.box (by repeat (first | exact Zh | apply List.Mem.tail)) rfl) rfl rfl rfl ?_ | (refine WL.calls hS rfl rfl (dkind_c p (hS.holds (dkC q mb lb D) (by repeat (first | exact Zh | apply List.Mem.tail))).1) rfl rfl rfl ?_; rintro v w rfl hS) | (refine WL.box hS rfl rfl rfl rfl rfl ?_; intro w b hS)) | (show WC _ _ _ _ _ _; first | refine WC.seq ?_ | refine WC.region ?_ | refine WC.block ?_ | refine WC.skip ?_ | refine WC.condT rfl Zd ?_ | refine WC.condF rfl (decide_eq_false Zw) ?_) | refine seqQ_n ?_ | refine blkQ_n ?_)
   exact finR (fin0n rfl ⟨rfl, hS.mutLp Pu⟩)
 ·rw [if_neg k1]
  by_cases k2 : kind = 2
  ·subst k2
   rw [if_pos rfl]
   unfold Dk.layF
   by_cases hr : (D.read p).2 = 0 ∧ (D.read p).1 = data
   ·rw [if_pos hr]
    obtain ⟨hr1, hr2⟩ := hr
    repeat' (first | (show WL _ _ _ _ _ _ _; first | refine WL.pure rfl rfl rfl rfl ?_ | refine WL.nil ?_ | refine WL.load hS rfl rfl (LdOk.box (by repeat (first | exact Zh | apply List.Mem.tail)) rfl) rfl rfl rfl ?_ | (refine WL.calls hS rfl rfl (dread_c p (hS.holds (dkC q mb lb D) (by repeat (first | exact Zh | apply List.Mem.tail))).1) rfl rfl rfl ?_; rintro v w rfl hS; rw [hr1, hr2]) | (refine WL.box hS rfl rfl rfl rfl rfl ?_; intro w b hS)) | (show WC _ _ _ _ _ _; first | refine WC.seq ?_ | refine WC.region ?_ | refine WC.block ?_ | refine WC.ret ?_ | refine WC.condT rfl Zd ?_ | refine WC.condF rfl Zd ?_ | refine WC.condT rfl Zs ?_) | refine seqQ_n ?_ | refine seqQ_r ?_ | refine blkQ_r ?_)
    exact finR (fin0r rfl ⟨rfl, hS.mutLp Pu⟩)
   ·rw [if_neg hr]
    have b1 := hB.write (p := stgP) (s := data) Zd hd
    have b2 := b1.sync (p := stgP) Zd
    have hw := fun (w : World) (hI : InL w [dkC q mb lb D]) => write_c stgP data hI.head hI.headB Zd (by rw [hB.lim]; rfl) hd (hB.data _)
    generalize D.write stgP data = r1 at *
    obtain ⟨e1, D1⟩ := r1
    have hy := fun (w : World) (hI : InL w [dkC q mb lb D1]) => sync_c stgP hI.head hI.headB Zd
    have b2 : DkB (n + 1 + 1) (D1.sync stgP).2 := b2
    dsimp only at hw ⊢
    generalize D1.sync stgP = r2 at *
    obtain ⟨e2, D2⟩ := r2
    have hn := fun (w : World) (hI : InL w [dkC q mb lb D2]) => rename_c stgP p hI.head hI.headB Zd hp (by rw [b2.lim]; rfl) (b2.data _) (b2.data _)
    dsimp only at hy ⊢
    generalize D2.rename stgP p = r3 at *
    obtain ⟨e3, D3⟩ := r3
    dsimp only at hn ⊢
    have hrd := fun (w : World) (hI : DkIs q mb lb D w) => dread_c p hI
    by_cases h0 : (D.read p).2 = 0
    ·have hne : ¬ (D.read p).1 = data := fun h => hr ⟨h0, h⟩
     rw [h0] at hrd
     generalize (D.read p).1 = rs at *
     clear hr b1 b2
     repeat' (first | (show WL _ _ _ _ _ _ _; first | refine WL.pure rfl rfl rfl rfl ?_ | refine WL.nil ?_ | refine WL.load hS rfl rfl (LdOk.box (by repeat (first | exact Zh | apply List.Mem.tail)) rfl) rfl rfl rfl ?_ | (refine WL.calls hS rfl rfl (hrd _ (hS.holds (dkC q mb lb D) (by repeat (first | exact Zh | apply List.Mem.tail))).1) rfl rfl rfl ?_; rintro v w rfl hS) | (refine WL.callL (D := [dkC q mb lb D]) hS Pu rfl rfl (fun hI => hw _ hI) rfl rfl rfl ?_; rintro v w ⟨rfl, hm⟩ hS; replace hS := hS _ (.of1 hm); clear hm) | (refine WL.callL (D := [dkC q mb lb D1]) hS Pu rfl rfl (fun hI => hy _ hI) rfl rfl rfl ?_; rintro v w ⟨rfl, hm⟩ hS; replace hS := hS _ (.of1 hm); clear hm) | (refine WL.callL (D := [dkC q mb lb D2]) hS Pu rfl rfl (fun hI => hn _ hI) rfl rfl rfl ?_; rintro v w ⟨rfl, hm⟩ hS; replace hS := hS _ (.of1 hm); clear hm) | (refine WL.callP0 hS rfl rfl (must_c e1 _) rfl rfl rfl (fun v w h1 hS => ?_) (fun c w h1 hS => ?_)) | (refine WL.callP0 hS rfl rfl (must_c e2 _) rfl rfl rfl (fun v w h2 hS => ?_) (fun c w h2 hS => ?_)) | (refine WL.callP0 hS rfl rfl (must_c e3 _) rfl rfl rfl (fun v w h3 hS => ?_) (fun c w h3 hS => ?_)) | (refine WL.box hS rfl rfl rfl rfl rfl ?_; intro w b hS)) | (show WC _ _ _ _ _ _; first | refine WC.seq ?_ | refine WC.region ?_ | refine WC.block ?_ | refine WC.skip ?_ | refine WC.condT rfl Zd ?_ | refine WC.condF rfl Zd ?_ | refine WC.condF rfl (decide_eq_false Zw) ?_) | (first | refine seqQ_p ?_ | refine blkQ_p ?_ | refine rndQ_p ?_) | refine seqQ_n ?_ | refine blkQ_n ?_)
     ·rw [if_neg (fun h => h h1), if_neg (fun h => h h2)]; exact finR (fin0n rfl ⟨h3, hS.mutLp Pu⟩)
     ·rw [if_neg (fun h => h h1), if_neg (fun h => h h2)]; exact finP ⟨h3.2, h3.1, hS.mutLp Pu⟩
     ·rw [if_neg (fun h => h h1), if_pos h2.2]; exact finP ⟨h2.2, h2.1, hS.mutLp Pu⟩
     ·rw [if_pos h1.2]; exact finP ⟨h1.2, h1.1, hS.mutLp Pu⟩
    ·generalize (D.read p).2 = re at *
     generalize (D.read p).1 = rs at *
     clear hr b1 b2
     repeat' (first | (show WL _ _ _ _ _ _ _; first | refine WL.pure rfl rfl rfl rfl ?_ | refine WL.nil ?_ | refine WL.load hS rfl rfl (LdOk.box (by repeat (first | exact Zh | apply List.Mem.tail)) rfl) rfl rfl rfl ?_ | (refine WL.calls hS rfl rfl (hrd _ (hS.holds (dkC q mb lb D) (by repeat (first | exact Zh | apply List.Mem.tail))).1) rfl rfl rfl ?_; rintro v w rfl hS) | (refine WL.callL (D := [dkC q mb lb D]) hS Pu rfl rfl (fun hI => hw _ hI) rfl rfl rfl ?_; rintro v w ⟨rfl, hm⟩ hS; replace hS := hS _ (.of1 hm); clear hm) | (refine WL.callL (D := [dkC q mb lb D1]) hS Pu rfl rfl (fun hI => hy _ hI) rfl rfl rfl ?_; rintro v w ⟨rfl, hm⟩ hS; replace hS := hS _ (.of1 hm); clear hm) | (refine WL.callL (D := [dkC q mb lb D2]) hS Pu rfl rfl (fun hI => hn _ hI) rfl rfl rfl ?_; rintro v w ⟨rfl, hm⟩ hS; replace hS := hS _ (.of1 hm); clear hm) | (refine WL.callP0 hS rfl rfl (must_c e1 _) rfl rfl rfl (fun v w h1 hS => ?_) (fun c w h1 hS => ?_)) | (refine WL.callP0 hS rfl rfl (must_c e2 _) rfl rfl rfl (fun v w h2 hS => ?_) (fun c w h2 hS => ?_)) | (refine WL.callP0 hS rfl rfl (must_c e3 _) rfl rfl rfl (fun v w h3 hS => ?_) (fun c w h3 hS => ?_)) | (refine WL.box hS rfl rfl rfl rfl rfl ?_; intro w b hS) | refine WL.skip rfl rfl rfl ?_ | ((fail_if_success (refine WL.wanted rfl ?_)); refine WL.guard rfl rfl rfl (fun h => ?_) (fun h => ?_) <;> (try simp only [Ya,Yb,Yc,Yd,Ye,Yf,Yg,Yh,Yi,Yj,Yk,Yl,Ym,Yn,Yo,Yp] at h) <;> (try exact Zx))) | (show WC _ _ _ _ _ _; first | refine WC.seq ?_ | refine WC.region ?_ | refine WC.block ?_ | refine WC.skip ?_ | refine WC.condF rfl Zr ?_ | refine WC.condT rfl Zd ?_ | refine WC.condF rfl Zd ?_) | (first | refine seqQ_p ?_ | refine blkQ_p ?_ | refine rndQ_p ?_) | refine seqQ_n ?_ | refine blkQ_n ?_)
     ·rw [if_neg (fun h => h h1), if_neg (fun h => h h2)]; exact finR (fin0n rfl ⟨h3, hS.mutLp Pu⟩)
     ·rw [if_neg (fun h => h h1), if_neg (fun h => h h2)]; exact finP ⟨h3.2, h3.1, hS.mutLp Pu⟩
     ·rw [if_neg (fun h => h h1), if_pos h2.2]; exact finP ⟨h2.2, h2.1, hS.mutLp Pu⟩
     ·rw [if_pos h1.2]; exact finP ⟨h1.2, h1.1, hS.mutLp Pu⟩
  ·rw [if_neg k2]
   repeat' (first | (show WL _ _ _ _ _ _ _; first | refine WL.pure rfl rfl rfl rfl ?_ | refine WL.nil ?_ | refine WL.load hS rfl rfl (LdOk.box (by repeat (first | exact Zh | apply List.Mem.tail)) rfl) rfl rfl rfl ?_ | (refine WL.box hS rfl rfl rfl rfl rfl ?_; intro w b hS)) | (show WC _ _ _ _ _ _; first | refine WC.seq ?_ | refine WC.region ?_ | refine WC.block ?_ | refine WC.skip ?_ | refine WC.condF rfl (decide_eq_false Zw) ?_) | refine seqQ_n ?_ | refine blkQ_n ?_)
   exact finR (fin0n rfl ⟨rfl, hS.mutLp Pu⟩)
open Go Go.J Go.RowKit
def KpX (B : Nat) (x : It) : Prop := x.data.length ≤ B ∧ x.kept.length ≤ B ∧ (x.loose = true → x.anew = false → x.kept.length ≤ x.data.length)
section
variable {D : Dk} {B : Nat} {p r s : List UInt8}
theorem Kp.of_at (h : D.Kp B) (p : List UInt8) : KpX B (D.at p) := h.at_ p
theorem Kp.same {D' : Dk} (h : D.Kp B) (e : D'.items = D.items) : D'.Kp B := fun x hx => h x (by rw [← e]; exact hx)
theorem Kp.stepK (h : D.Kp B) : D.step.Kp B := Kp.same h D.step_items
theorem Kp.put (h : D.Kp B) {x : It} (hx : KpX B x) {D' : Dk} (e : D'.items = mset D.items p x) : D'.Kp B := fun y hy => by
 rw [e] at hy
 rcases mset_inA hy with hy | hy
 ·exact h y hy
 ·rw [hy]; exact hx
theorem Kp.del (h : D.Kp B) : (D.del p).Kp B := fun y hy => h y ((mdel_sub _ _).subset hy)
theorem Kp.set (h : D.Kp B) {x : It} (hx : KpX B x) : (D.set p x).Kp B := Kp.put (x := { x with stamp := IntKind.i64.wrap (D.stamps + 1) }) h hx rfl
theorem Kp.mkdir (h : D.Kp B) : (D.mkdir p).2.Kp B := by
 unfold Dk.mkdir
 repeat' split
 all_goals first | exact h | exact Kp.stepK h | exact Kp.put (x := { It0 with dir := true }) (Kp.stepK h) ⟨Nat.zero_le _, Nat.zero_le _, fun _ _ => Nat.zero_le _⟩ rfl
theorem Kp.remove (h : D.Kp B) : (D.remove p).2.Kp B := by
 unfold Dk.remove
 repeat' split
 all_goals first | exact h | exact Kp.stepK h | exact Kp.del (Kp.stepK h)
theorem Kp.write (h : D.Kp B) (hs : s.length ≤ B) : (D.write p s).2.Kp B := by
 unfold Dk.write
 repeat' split
 all_goals first | exact h | exact Kp.stepK h | exact Kp.set (Kp.stepK h) ⟨hs, (Kp.of_at h p).2.1, fun _ h => Bool.noConfusion h⟩
theorem Kp.sync (h : D.Kp B) : (D.sync p).2.Kp B := by
 unfold Dk.sync
 repeat' split
 all_goals first | exact h | exact Kp.stepK h | exact Kp.put (x := { D.step.at p with kept := (D.step.at p).data, loose := false, anew := false }) (Kp.stepK h) ⟨(Kp.of_at (Kp.stepK h) p).1, (Kp.of_at (Kp.stepK h) p).1, fun h => Bool.noConfusion h⟩ rfl
theorem Kp.rename (h : D.Kp B) : (D.rename p r).2.Kp B := by
 unfold Dk.rename
 repeat' split
 all_goals first | exact h | exact Kp.stepK h | exact Kp.set (Kp.del (Kp.stepK h)) (Kp.of_at h p)
theorem Kp.layF (h : D.Kp B) (hs : s.length ≤ B) : (D.layF p s).2.Kp B := by
 have h1 := Kp.write (p := stgP) h hs
 have h2 := Kp.sync (p := stgP) h1
 have h3 := Kp.rename (p := stgP) (r := p) h2
 unfold Dk.layF
 repeat' split
 all_goals first | exact h | exact h1 | exact h2 | exact h3
theorem Kp.layN {k : Int} (h : D.Kp B) (hs : s.length ≤ B) : (Go.Proofs.YtccfiohagbneaaaGreatDoor.layN D p k s).2.Kp B := by
 unfold Go.Proofs.YtccfiohagbneaaaGreatDoor.layN
 repeat' split
 all_goals first | exact Kp.mkdir h | exact Kp.layF h hs | exact h
end
structure DkS (n : Nat) (D : Dk) : Prop where
 b : DkB n D
 k : D.Kp 1000000000
section
variable {D : Dk} {n : Nat}
theorem DkS.mono {m : Nat} (h : DkS n D) (hm : n ≤ m) : DkS m D := ⟨h.b.mono hm, h.k⟩
theorem DkS.lay1 {s : Int × Dk} {v : List UInt8} {x : Ent} (h : DkS n s.2) (hp : v.length + x.path.length ≤ 1000000) (hd : x.data.length ≤ 1000000000) : DkS (n + 2) (Go.Proofs.YtccfiohagbneaaaGreatDoor.lay1 v s x).2 := by
 have hl : (v ++ 47 :: x.path).length ≤ 1099511627 := by rw [List.length_append, List.length_cons]; omega
 have w1 := h.b.write (p := v ++ 47 :: x.path) hl (Nat.le_trans hd Zd)
 have w2 := w1.sync (p := v ++ 47 :: x.path) hl
 have k1 := Kp.write (p := v ++ 47 :: x.path) h.k hd
 have k2 := Kp.sync (p := v ++ 47 :: x.path) k1
 unfold Go.Proofs.YtccfiohagbneaaaGreatDoor.lay1
 repeat' split
 all_goals first | exact h.mono Zo | exact ⟨(h.b.mkdir hl).mono Zo, Kp.mkdir h.k⟩ | exact ⟨w1.mono Zo, k1⟩ | exact ⟨w2, k2⟩
theorem DkS.layFold {v : List UInt8} : ∀ {t : List Ent} {s : Int × Dk} {n : Nat}, DkS n s.2 → (∀ x ∈ t, v.length + x.path.length ≤ 1000000 ∧ x.data.length ≤ 1000000000) → DkS (n + 2 * t.length) (t.foldl (Go.Proofs.YtccfiohagbneaaaGreatDoor.lay1 v) s).2
 |[], _, _, h, _ => h
 |x :: t, s, n, h, hx => by
  have h1 := DkS.lay1 (v := v) h (hx x (List.mem_cons_self ..)).1 (hx x (List.mem_cons_self ..)).2
  have := DkS.layFold (t := t) h1 fun y hy => hx y (List.mem_cons_of_mem _ hy)
  rw [List.foldl_cons, List.length_cons]
  exact this.mono Zo
theorem DkS.rmS {s : Int × Dk} {a : Fs} (h : DkS n s.2) : DkS n (Go.Proofs.YtccfiohagbneaaaGreatDoor.rmS s a).2 := by
 unfold Go.Proofs.YtccfiohagbneaaaGreatDoor.rmS
 repeat' split
 all_goals first | exact h | exact ⟨h.b.remove, Kp.remove h.k⟩
theorem DkS.layS {s : Int × Dk} {a : Fs} (h : DkS n s.2) (hp : a.p.length ≤ 1099511627) (hd : a.data.length ≤ 1000000000) : DkS (n + 3) (Go.Proofs.YtccfiohagbneaaaGreatDoor.layS s a).2 := by
 unfold Go.Proofs.YtccfiohagbneaaaGreatDoor.layS
 repeat' split
 all_goals first | exact h.mono Zo | exact ⟨(h.b.mkdir hp).mono Zo, Kp.mkdir h.k⟩ | exact ⟨(h.b.layF hp (Nat.le_trans hd Zd)).mono Zo, Kp.layF h.k hd⟩
theorem DkS.rmFold : ∀ {F : List Fs} {s : Int × Dk}, DkS n s.2 → DkS n (F.foldl Go.Proofs.YtccfiohagbneaaaGreatDoor.rmS s).2
 |[], _, h => h
 |a :: F, s, h => by rw [List.foldl_cons]; exact DkS.rmFold h.rmS
theorem DkS.laySFold : ∀ {F : List Fs} {s : Int × Dk} {n : Nat}, DkS n s.2 → (∀ a ∈ F, a.p.length ≤ 1099511627 ∧ a.data.length ≤ 1000000000) → DkS (n + 3 * F.length) (F.foldl Go.Proofs.YtccfiohagbneaaaGreatDoor.layS s).2
 |[], _, _, h, _ => h
 |a :: F, s, n, h, hx => by
  have h1 := h.layS (hx a (List.mem_cons_self ..)).1 (hx a (List.mem_cons_self ..)).2
  have := DkS.laySFold (F := F) h1 fun y hy => hx y (List.mem_cons_of_mem _ hy)
  rw [List.foldl_cons, List.length_cons]
  exact this.mono Zo
theorem DkS.runF {F : List Fs} (h : DkS n D) (hx : ∀ a ∈ F, a.p.length ≤ 1099511627 ∧ a.data.length ≤ 1000000000) : DkS (n + 3 * F.length) (Go.Proofs.YtccfiohagbneaaaGreatDoor.runF D F).2 := by
 unfold Go.Proofs.YtccfiohagbneaaaGreatDoor.runF rmF
 exact DkS.laySFold (DkS.rmFold (s := (0, D)) h) hx
theorem DkB.arm (h : DkB n D) (a : Int) : DkB n (D.arm a) := ⟨h.lim, h.len, h.nd, h.key, h.data⟩
theorem DkS.arm (h : DkS n D) (a : Int) : DkS n (D.arm a) := ⟨h.b.arm a, h.k⟩
end
section
variable {D : Dk} {p r s y : List UInt8}
theorem mkdir_fr (h : y ≠ p) : (D.mkdir p).2.get y = D.get y := by
 unfold Dk.mkdir
 repeat' split
 all_goals first | rfl | exact D.get_step y | exact ((Dk.get_put _ _ _ _).trans (if_neg h)).trans (D.get_step y)
theorem remove_fr (hn : (D.items.map Prod.fst).Nodup) (h : y ≠ p) : (D.remove p).2.get y = D.get y := by
 have hd : (D.step.items.map Prod.fst).Nodup := by rw [Dk.step_items]; exact hn
 unfold Dk.remove
 repeat' split
 all_goals first | rfl | exact D.get_step y | exact ((Dk.get_del _ hd _ _).trans (if_neg h)).trans (D.get_step y)
theorem write_fr (h : y ≠ p) : (D.write p s).2.get y = D.get y := by
 unfold Dk.write
 repeat' split
 all_goals first | rfl | exact D.get_step y | exact ((Dk.get_set _ _ _ _).trans (if_neg h)).trans (D.get_step y)
theorem sync_fr (h : y ≠ p) : (D.sync p).2.get y = D.get y := by
 unfold Dk.sync
 repeat' split
 all_goals first | rfl | exact D.get_step y | exact ((Dk.get_put _ _ _ _).trans (if_neg h)).trans (D.get_step y)
theorem rename_fr (hn : (D.items.map Prod.fst).Nodup) (h : y ≠ p) (k : y ≠ r) : (D.rename p r).2.get y = D.get y := by
 have hd : (D.step.items.map Prod.fst).Nodup := by rw [Dk.step_items]; exact hn
 unfold Dk.rename
 repeat' split
 all_goals first | rfl | exact D.get_step y | exact (((Dk.get_set _ _ _ _).trans (if_neg k)).trans ((Dk.get_del _ hd _ _).trans (if_neg h))).trans (D.get_step y)
theorem layF_fr {n : Nat} (hB : DkB n D) (hs : s.length ≤ 1099511627776) (h : y ≠ p) (k : y ≠ stgP) : (D.layF p s).2.get y = D.get y := by
 have b1 := hB.write (p := stgP) (s := s) Zd hs
 have b2 := b1.sync (p := stgP) Zd
 have h1 := write_fr (D := D) (s := s) k
 have h2 := sync_fr (D := (D.write stgP s).2) k
 have h3 := rename_fr (D := ((D.write stgP s).2.sync stgP).2) (r := p) b2.nd k h
 unfold Dk.layF
 repeat' split
 all_goals first | rfl | exact h1 | exact h2.trans h1 | exact (h3.trans h2).trans h1
theorem rmS_fr {t : Int × Dk} {a : Fs} (hn : (t.2.items.map Prod.fst).Nodup) (h : y ≠ a.p) : (rmS t a).2.get y = t.2.get y := by
 unfold rmS
 repeat' split
 all_goals first | rfl | exact remove_fr hn h
theorem layS_fr {n : Nat} {t : Int × Dk} {a : Fs} (hB : DkB n t.2) (hd : a.data.length ≤ 1000000000) (h : y ≠ a.p) (k : y ≠ stgP) : (layS t a).2.get y = t.2.get y := by
 unfold layS
 repeat' split
 all_goals first | rfl | exact mkdir_fr h | exact layF_fr hB (Nat.le_trans hd Zd) h k
theorem rmF_fr : ∀ {F : List Fs} {t : Int × Dk} {n : Nat}, DkS n t.2 → (∀ a ∈ F, y ≠ a.p) → (F.foldl rmS t).2.get y = t.2.get y
 |[], _, _, _, _ => rfl
 |a :: F, t, n, h, hx => by
  rw [List.foldl_cons, rmF_fr (F := F) h.rmS fun b hb => hx b (List.mem_cons_of_mem _ hb)]
  exact rmS_fr h.b.nd (hx a (List.mem_cons_self ..))
theorem layF_frs : ∀ {F : List Fs} {t : Int × Dk} {n : Nat}, DkS n t.2 → (∀ a ∈ F, a.p.length ≤ 1099511627 ∧ a.data.length ≤ 1000000000) → (∀ a ∈ F, y ≠ a.p) → y ≠ stgP → (F.foldl layS t).2.get y = t.2.get y
 |[], _, _, _, _, _, _ => rfl
 |a :: F, t, n, h, hz, hx, k => by
  have ha := hz a (List.mem_cons_self ..)
  rw [List.foldl_cons, layF_frs (F := F) (h.layS ha.1 ha.2) (fun b hb => hz b (List.mem_cons_of_mem _ hb)) (fun b hb => hx b (List.mem_cons_of_mem _ hb)) k]
  exact layS_fr h.b ha.2 (hx a (List.mem_cons_self ..)) k
theorem runF_fr {F : List Fs} {n : Nat} (h : DkS n D) (hz : ∀ a ∈ F, a.p.length ≤ 1099511627 ∧ a.data.length ≤ 1000000000) (hx : ∀ a ∈ F, y ≠ a.p) (k : y ≠ stgP) : (runF D F).2.get y = D.get y := by
 unfold runF rmF
 rw [layF_frs (DkS.rmFold (s := (0, D)) h) hz hx k]
 exact rmF_fr (t := (0, D)) h fun a ha => hx a (List.mem_reverse.1 ha)
end
theorem lostI_dir (loss n st : Int) (x : It) : (lostI loss n st x).dir = x.dir := by unfold lostI; split <;> rfl
theorem lostI_firm {loss n st : Int} {x : It} (h : x.loose = false) : lostI loss n st x = x := by unfold lostI; rw [if_neg (by rw [h]; decide)]
section
variable {D D' : Dk} {loss : Int}
theorem LoseR.dirs {p : List UInt8} (h : LoseR loss (D.get p) (D'.get p)) : (D'.at p).dir = (D.at p).dir ∧ D'.has p = D.has p := by
 rw [Dk.at_get, Dk.at_get, Dk.has_get, Dk.has_get]
 cases hg : D.get p with
 |none => rw [h.1 hg]; exact ⟨rfl, rfl⟩
 |some x =>
  obtain ⟨n, st, e⟩ := h.2 x hg
  rw [e]
  exact ⟨lostI_dir _ _ _ _, rfl⟩
theorem Dk.lose_keys : ∀ (ks : List (List UInt8)) (s : Int × Dk), (∀ k ∈ ks, k ∈ s.2.items.map Prod.fst) → (ks.foldl (lose1 loss) s).2.items.map Prod.fst = s.2.items.map Prod.fst ∧ (ks.foldl (lose1 loss) s).2.limits = s.2.limits
 |[], s, _ => ⟨rfl, rfl⟩
 |k :: ks, s, h => by
  have hk : (lose1 loss s k).2.items.map Prod.fst = s.2.items.map Prod.fst ∧ (lose1 loss s k).2.limits = s.2.limits := by
   unfold lose1
   split
   ·refine ⟨?_, rfl⟩
    show (mset s.2.items k _).map Prod.fst = _
    rw [mset_keys, if_pos (h k (List.mem_cons_self ..))]
   ·exact ⟨rfl, rfl⟩
  obtain ⟨i1, i2⟩ := Dk.lose_keys ks (lose1 loss s k) (fun x hx => by rw [hk.1]; exact h x (List.mem_cons_of_mem _ hx))
  rw [List.foldl_cons]
  exact ⟨i1.trans hk.1, i2.trans hk.2⟩
structure Again (loss : Int) (D D' : Dk) : Prop where
 up : D'.down = false
 calm : D'.armed < 0
 keys : D'.items.map Prod.fst = D.items.map Prod.fst
 lim : D'.limits = D.limits
 get : ∀ y, LoseR loss (D.get y) (D'.get y)
theorem restart_again (hn : (D.items.map Prod.fst).Nodup) (loss : Int) : Again loss D (D.restart loss) := by
 have hperm : D.keys.Perm (D.items.map Prod.fst) := List.mergeSort_perm _ _
 obtain ⟨k1, k2⟩ := Dk.lose_keys (loss := loss) D.keys (0, D) fun k hk => hperm.mem_iff.1 hk
 refine ⟨rfl, (by decide : (-1 : Int) < 0), k1, k2, fun y => ?_⟩
 have hf := lose_fold loss D.keys (0, D) (hperm.nodup_iff.2 hn) y
 by_cases hy : y ∈ D.keys
 ·exact hf.2 hy
 ·have hg : (D.restart loss).get y = D.get y := hf.1 hy
  have hn : D.get y = none := mget_none.2 fun hh => hy (hperm.mem_iff.2 hh)
  rw [hg, hn]
  exact ⟨fun h => h, fun x hx => by cases hx⟩
theorem Again.w (h : Again loss D D') (hw : DkW D) : DkW D' := by
 have hd := fun y => (h.get y).dirs
 refine ⟨h.lim.trans hw.lim, by rw [h.keys]; exact hw.nd, by rw [(hd _).1]; exact hw.dir, by rw [(hd _).2]; exact hw.has, by rw [(hd _).1]; exact hw.stg, fun p hp => hw.ok p (by rw [← (hd p).2]; exact hp), fun p hp => ?_, fun p hp => by rw [(hd p).1]; exact hw.files p hp⟩
 have := hw.up p (by rw [← (hd p).2]; exact hp)
 unfold Dk.under at this ⊢
 rw [(hd _).1]; exact this
theorem Again.quiet (h : Again loss D D') (hw : DkW D) : Quiet D' := ⟨h.w hw, h.up, h.calm⟩
theorem Again.node (h : Again loss D D') (hf : Firm D) {y : List UInt8} (h1 : ¬ sysF y) (h2 : y ≠ stgP) : D'.get y = D.get y := by
 cases hg : D.get y with
 |none => exact (h.get y).1 hg
 |some x =>
  obtain ⟨n, st, e⟩ := (h.get y).2 x hg
  rw [e, lostI_firm (hf y x h1 h2 hg).1]
theorem Again.firm (h : Again loss D D') (hf : Firm D) : Firm D' := fun y x h1 h2 h3 => hf y x h1 h2 (by rw [← h.node hf h1 h2]; exact h3)
theorem loses_len {B : Nat} : ∀ (ks : List (List UInt8)) (s : Int × Dk), s.2.Kp B → (ks.foldl (lose1 loss) s).2.Kp B
 |[], _, h => h
 |k :: ks, s, h => by rw [List.foldl_cons]; exact loses_len ks _ (lose1_Kp h)
theorem DkS.restart {n : Nat} (h : DkS n D) (loss : Int) : DkS n (D.restart loss) := by
 have ha := restart_again h.b.nd loss
 have hk : (D.restart loss).Kp 1000000000 := loses_len D.keys (0, D) h.k
 refine ⟨⟨ha.lim.trans h.b.lim, ?_, by rw [ha.keys]; exact h.b.nd, fun x hx => ?_, fun y => Nat.le_trans (hk.at_ y).1 Zd⟩, hk⟩
 ·have := congrArg List.length ha.keys
  rw [List.length_map, List.length_map] at this
  rw [this]; exact h.b.len
 ·have : x.1 ∈ D.items.map Prod.fst := by rw [← ha.keys]; exact List.mem_map_of_mem hx
  obtain ⟨y, hy, e⟩ := List.mem_map.1 this
  rw [← e]; exact h.b.key y hy
end
open Go Go.J Go.RowKit
theorem z14 {p : Prop} {n : Int} (h : n = 14) (k : n ≠ 14 := by (decide)) : p := absurd h k
theorem z0 {p : Prop} (h : (0 : Int) = 14) : p := absurd h Zd
def Kl (n : Nat) (D : Dk) : Prop := D.items.length ≤ n ∧ ∀ x ∈ D.items, x.1.length ≤ 1099511627
structure OpF (P : List UInt8 → Prop) (k : Nat) (D : Dk) (r : Int × Dk) : Prop where
 nd : (D.items.map Prod.fst).Nodup → (r.2.items.map Prod.fst).Nodup
 fr : (D.items.map Prod.fst).Nodup → ∀ y, ¬ P y → r.2.get y = D.get y
 dn : r.1 = 14 → r.2.down = true
 calm : D.armed < 0 → D.down = false → r.2.armed < 0 ∧ r.2.down = false
 key : ∀ n, Kl n D → Kl (n + k) r.2
section
variable {P Q : List UInt8 → Prop} {a b k n : Nat} {D D' : Dk} {r r' : Int × Dk} {e : Int} {p q s y : List UInt8} {x : It}
theorem Kl.mono (h : Kl n D) (hm : n ≤ k) : Kl k D := ⟨Nat.le_trans h.1 hm, h.2⟩
theorem Kl.same (h : Kl n D) (e : D'.items = D.items) : Kl n D' := by unfold Kl; rw [e]; exact h
theorem Kl.put (h : Kl n D) (e : D'.items = mset D.items p x) (hp : p.length ≤ 1099511627) : Kl (n + 1) D' := by
 unfold Kl
 rw [e]
 refine ⟨Nat.le_trans (mset_leA _ _ _) (Nat.succ_le_succ h.1), fun z hz => ?_⟩
 rcases mset_inA hz with hz | hz
 ·exact h.2 z hz
 ·rw [hz]; exact hp
theorem Kl.del (h : Kl n D) (e : D'.items = mdel D.items p) : Kl n D' := by
 unfold Kl
 rw [e]
 exact ⟨Nat.le_trans (mdel_sub _ _).length_le h.1, fun z hz => h.2 z ((mdel_sub _ _).subset hz)⟩
theorem may14 {m : Int} (h : D.may p m = 14) : D.down = true := by
 unfold Dk.may at h
 cases hd : D.down with
 |true => rfl
 |false =>
  rw [hd, if_neg Zd] at h
  repeat' split at h
  all_goals first | exact absurd h Zd | cases h
theorem file14 (h : D.file p = 14) : D.down = true := by
 unfold Dk.file at h
 split at h
 ·exact may14 h
 ·repeat' split at h
  all_goals exact absurd h Zd
theorem stepE14 (h : D.stepE = 14) : D.step.down = true := by
 unfold Dk.stepE at h
 split at h
 ·exact step_down (by assumption)
 ·exact absurd h Zd
theorem step_still (h : D.armed < 0) (hu : D.down = false) : D.step.armed < 0 ∧ D.step.down = false := ⟨step_calm h, (step_up Zo).trans hu⟩
theorem OpF.stay (he : e = 14 → D.down = true) : OpF P k D (e, D) := ⟨id, fun _ _ _ => rfl, he, fun h1 h2 => ⟨h1, h2⟩, fun n h => h.mono (Nat.le_add_right _ _)⟩
theorem OpF.stop : OpF P k D (D.stepE, D.step) := ⟨fun h => by show (D.step.items.map _).Nodup; rw [Dk.step_items]; exact h, fun _ y _ => D.get_step y, stepE14, step_still, fun n h => (h.same D.step_items).mono (Nat.le_add_right _ _)⟩
theorem OpF.put (hp : P p) (hl : p.length ≤ 1099511627) (e1 : D'.items = mset D.items p x) (e2 : D'.armed = D.step.armed) (e3 : D'.down = D.step.down) (hk : 1 ≤ k) : OpF P k D (0, D') :=
 ⟨fun h => by show (D'.items.map _).Nodup; rw [e1]; exact mset_nodup h _ _, fun _ y hy => by
  show mget D'.items y = mget D.items y
  rw [e1, mget_set, if_neg (fun e => hy (by rw [e]; exact hp))], fun h => z0 h, fun h1 h2 => by rw [show (0, D').2 = D' from rfl, e2, e3]; exact step_still h1 h2, fun n h => (h.put e1 hl).mono Zo⟩
theorem OpF.set (hp : P p) (hl : p.length ≤ 1099511627) (hk : 1 ≤ k) : OpF P k D (0, D.step.set p x) :=
 OpF.put (x := { x with stamp := IntKind.i64.wrap (D.step.stamps + 1) }) hp hl (by show mset D.step.items p _ = _; rw [Dk.step_items]) rfl rfl hk
theorem OpF.del (hp : P p) (e1 : D'.items = mdel D.items p) (e2 : D'.armed = D.step.armed) (e3 : D'.down = D.step.down) : OpF P k D (0, D') :=
 ⟨fun h => by show (D'.items.map _).Nodup; rw [e1]; exact mdel_nodup h _, fun hn y hy => by
  show mget D'.items y = mget D.items y
  rw [e1, mget_del _ hn, if_neg (fun e => hy (by rw [e]; exact hp))], fun h => z0 h, fun h1 h2 => by rw [show (0, D').2 = D' from rfl, e2, e3]; exact step_still h1 h2, fun n h => (h.del e1).mono (Nat.le_add_right _ _)⟩
theorem OpF.mono (h : OpF P a D r) (hP : ∀ y, P y → Q y) (hk : a ≤ b) : OpF Q b D r := ⟨h.nd, fun hn y hy => h.fr hn y fun hp => hy (hP y hp), h.dn, h.calm, fun n hn => (h.key n hn).mono Zo⟩
theorem OpF.trans (h : OpF P a D r) (h2 : OpF P b r.2 r') : OpF P (a + b) D r' :=
 ⟨fun hn => h2.nd (h.nd hn), fun hn y hy => (h2.fr (h.nd hn) y hy).trans (h.fr hn y hy), h2.dn, fun c u => h2.calm (h.calm c u).1 (h.calm c u).2, fun n hn => by rw [← Nat.add_assoc]; exact h2.key _ (h.key n hn)⟩
theorem OpF.mkdir (hl : p.length ≤ 1099511627) : OpF (fun y => y = p) 1 D (D.mkdir p) := by
 unfold Dk.mkdir
 repeat' split
 ·exact .stay may14
 ·exact .stay fun h => z14 h
 ·exact .stay fun h => z14 h
 ·exact .stop
 ·exact .put (p := p) (x := { It0 with dir := true }) rfl hl (by show mset D.step.items p _ = _; rw [Dk.step_items]) rfl rfl (Nat.le_refl _)
theorem OpF.write (hl : p.length ≤ 1099511627) : OpF (fun y => y = p) 1 D (D.write p s) := by
 unfold Dk.write
 repeat' split
 ·exact .stay may14
 ·exact .stay fun h => z14 h
 ·exact .stay fun h => z14 h
 ·exact .stop
 ·exact .set (p := p) rfl hl (Nat.le_refl _)
theorem OpF.append (hl : p.length ≤ 1099511627) : OpF (fun y => y = p) 1 D (D.append p s) := by
 unfold Dk.append
 repeat' split
 ·exact .stay file14
 ·exact .stop
 ·exact .set (p := p) rfl hl (Nat.le_refl _)
theorem OpF.sync (hl : p.length ≤ 1099511627) : OpF (fun y => y = p) 1 D (D.sync p) := by
 unfold Dk.sync
 repeat' split
 ·exact .stay file14
 ·exact .stop
 ·exact .put (p := p) (x := { D.step.at p with kept := (D.step.at p).data, loose := false, anew := false }) rfl hl (by show mset D.step.items p _ = _; rw [Dk.step_items]) rfl rfl (Nat.le_refl _)
theorem OpF.remove : OpF (fun y => y = p) 0 D (D.remove p) := by
 unfold Dk.remove
 repeat' split
 ·exact .stay may14
 ·exact .stay fun h => z14 h
 ·exact .stay fun h => z14 h
 ·exact .stop
 ·exact .del (p := p) rfl (by show mdel D.step.items p = _; rw [Dk.step_items]) rfl rfl
theorem OpF.rename (hl : q.length ≤ 1099511627) : OpF (fun y => y = p ∨ y = q) 1 D (D.rename p q) := by
 unfold Dk.rename
 repeat' split
 all_goals first
  |exact .stay may14
  |exact .stay fun h => z14 h
  |exact .stop
  |skip
 refine ⟨fun hn => ?_, fun hn y hy => ?_, fun h => z0 h, step_still, fun n h => ?_⟩
 ·exact mset_nodup (mdel_nodup (by rw [Dk.step_items]; exact hn) _) _ _
 ·have h1 : (D.step.items.map Prod.fst).Nodup := by rw [Dk.step_items]; exact hn
  show Dk.get ((D.step.del p).set q (D.at p)) y = _
  rw [Dk.get_set, if_neg (fun e => hy (.inr e)), Dk.get_del _ h1, if_neg (fun e => hy (.inl e)), Dk.get_step]
 ·exact Kl.put (D := D.step.del p) (p := q) (x := { D.at p with stamp := IntKind.i64.wrap (D.step.stamps + 1) }) (Kl.del (D := D.step) (h.same D.step_items) rfl) rfl hl
theorem OpF.fill (hl : p.length ≤ 1000000) : OpF (fun y => y = p ∨ y = p ++ [95, 116]) 3 D (D.fill p s) := by
 have hl2 : (p ++ [95, 116]).length ≤ 1099511627 := by rw [List.length_append]; simp; omega
 have w : OpF (fun y => y = p ∨ y = p ++ [95, 116]) 1 D (D.write (p ++ [95, 116]) s) := (OpF.write hl2).mono (fun _ h => .inr h) (Nat.le_refl _)
 have z : OpF (fun y => y = p ∨ y = p ++ [95, 116]) 1 (D.write (p ++ [95, 116]) s).2 ((D.write (p ++ [95, 116]) s).2.sync (p ++ [95, 116])) := (OpF.sync hl2).mono (fun _ h => .inr h) (Nat.le_refl _)
 have t : OpF (fun y => y = p ∨ y = p ++ [95, 116]) 1 ((D.write (p ++ [95, 116]) s).2.sync (p ++ [95, 116])).2 (((D.write (p ++ [95, 116]) s).2.sync (p ++ [95, 116])).2.rename (p ++ [95, 116]) p) := (OpF.rename Zo).mono (fun _ h => h.symm) (Nat.le_refl _)
 unfold Dk.fill
 repeat' split
 ·exact w.mono (fun _ h => h) Zd
 ·exact (w.trans z).mono (fun _ h => h) Zd
 ·exact (w.trans z).trans t
end
section
variable {D D' : Dk} {G : Lg} {T : Tb} {r s : List UInt8} {rows : Rws} {recs : List (List UInt8)} {dmg : Bool} {ops : List Chg}
theorem opF_L {s : List UInt8} : OpF sysF 3 D (D.fill sysL s) := (OpF.fill Zd).mono (fun y h => by rcases h with rfl | rfl; exact sysF_L; exact sysF_LT) (Nat.le_refl _)
theorem opF_B {s : List UInt8} : OpF sysF 3 D (D.fill sysB s) := (OpF.fill Zd).mono (fun y h => by rcases h with rfl | rfl; exact sysF_B; exact sysF_BT) (Nat.le_refl _)
theorem opF_add : OpF sysF 2 D ((walAdd ⟨sysL, recs, dmg⟩ D r).1, (walAdd ⟨sysL, recs, dmg⟩ D r).2.2) := by
 have a : OpF sysF 1 D (D.append sysL (packE r)) := (OpF.append Zd).mono (fun y h => by rw [h]; exact sysF_L) (Nat.le_refl _)
 have z : OpF sysF 1 (D.append sysL (packE r)).2 ((D.append sysL (packE r)).2.sync sysL) := (OpF.sync Zd).mono (fun y h => by rw [h]; exact sysF_L) (Nat.le_refl _)
 unfold walAdd
 dsimp only
 by_cases h1 : (D.append sysL (packE r)).1 ≠ 0
 ·rw [if_pos h1]; exact a.mono (fun _ h => h) Zd
 ·rw [if_neg h1]
  by_cases h2 : ((D.append sysL (packE r)).2.sync sysL).1 ≠ 0
  ·rw [if_pos h2]; exact a.trans z
  ·rw [if_neg h2]
   have := a.trans z
   have e : ((D.append sysL (packE r)).2.sync sysL).1 = 0 := Classical.not_not.1 h2
   exact ⟨this.nd, this.fr, fun h => z0 h, this.calm, this.key⟩
theorem opF_pack : OpF sysF 6 D ((tabPack ⟨sysP, rows, ⟨sysL, recs, dmg⟩⟩ D).1, (tabPack ⟨sysP, rows, ⟨sysL, recs, dmg⟩⟩ D).2.2) := by
 unfold tabPack
 dsimp only
 rw [show baseP sysP = sysB from rfl]
 have f1 := opF_B (D := D) (s := packE (recordE (packL rows)))
 have f2 := opF_L (D := (D.fill sysB (packE (recordE (packL rows)))).2) (s := [])
 by_cases h1 : (D.fill sysB (packE (recordE (packL rows)))).1 ≠ 0
 ·rw [if_pos h1]; exact f1.mono (fun _ h => h) Zd
 ·rw [if_neg h1]; exact f1.trans f2
theorem push_log : (walAdd ⟨sysL, recs, dmg⟩ D r).2.1.p = sysL := by
 unfold walAdd
 repeat' split
 all_goals rfl
theorem opF_commit : OpF sysF 8 D ((tabCommit ⟨sysP, rows, ⟨sysL, recs, dmg⟩⟩ D ops).1, (tabCommit ⟨sysP, rows, ⟨sysL, recs, dmg⟩⟩ D ops).2.2) := by
 unfold tabCommit
 dsimp only
 by_cases h0 : ops = []
 ·rw [if_pos h0]; exact .stay fun h => z0 h
 rw [if_neg h0]
 have f1 := opF_add (D := D) (recs := recs) (dmg := dmg) (r := recordE ops)
 have hp := push_log (D := D) (recs := recs) (dmg := dmg) (r := recordE ops)
 generalize walAdd ⟨sysL, recs, dmg⟩ D (recordE ops) = z at *
 obtain ⟨e, ⟨gp, gr, gd⟩, D1⟩ := z
 dsimp only at f1 hp ⊢
 subst hp
 by_cases h1 : e ≠ 0
 ·rw [if_pos h1]; exact f1.mono (fun _ h => h) Zd
 rw [if_neg h1]
 by_cases h2 : 16 ≤ gr.length
 ·rw [if_pos h2]; exact f1.trans opF_pack
 ·rw [if_neg h2]
  exact ⟨f1.nd, f1.fr, fun h => z0 h, f1.calm, fun n h => (f1.key n h).mono Zo⟩
theorem read14 {p : List UInt8} (h : (D.read p).2 = 14) : D.down = true := by
 unfold Dk.read at h
 split at h
 ·assumption
 ·repeat' split at h
  all_goals first | exact z0 h | exact absurd h Zd
theorem opF_wopen : OpF sysF 3 D ((walOpen D sysL).1, (walOpen D sysL).2.2) := by
 have f := fun s => opF_L (D := D) (s := s)
 have g : ∀ s, OpF sysF 3 D (0, (D.fill sysL s).2) := fun s => ⟨(f s).nd, (f s).fr, fun h => z0 h, (f s).calm, (f s).key⟩
 unfold walOpen
 repeat' split
 all_goals first
  |exact f _
  |exact g _
  |exact .stay fun h => read14 h
  |exact .stay fun h => z0 h
  |exact .stay fun h => z14 h
theorem DkW.sys {r : Int × Dk} {k : Nat} (h : DkW D) (hr : OpF sysF k D r) (hc : SysC r.2) : DkW r.2 := by
 have hg := hr.fr h.nd
 have hat : ∀ y, ¬ sysF y → r.2.at y = D.at y := fun y hy => by rw [Dk.at_get, Dk.at_get, hg y hy]
 refine ⟨hc.lim, hc.nd, hc.dir, hc.has, by rw [hat _ stg_nf]; exact h.stg, fun p hp => ?_, fun p hp => ?_, hc.files⟩
 ·by_cases hs : sysF p
  ·exact (sysF_ok hs).1
  ·exact h.ok p (by rw [Dk.has_get, ← hg p hs, ← Dk.has_get]; exact hp)
 ·by_cases hs : sysF p
  ·exact hc.under hs
  ·have h1 := h.up p (by rw [Dk.has_get, ← hg p hs, ← Dk.has_get]; exact hp)
   unfold Dk.under at h1 ⊢
   split
   ·rfl
   ·rename_i e
    rw [if_neg e] at h1
    by_cases hq : sysF (parentE p)
    ·rw [h.files _ hq] at h1; cases h1
    ·rw [hat _ hq]; exact h1
theorem Firm.sys {r : Int × Dk} {k : Nat} (h : Firm D) (hn : (D.items.map Prod.fst).Nodup) (hr : OpF sysF k D r) : Firm r.2 := fun p x h1 h2 h3 => h p x h1 h2 (by rw [← hr.fr hn p h1]; exact h3)
theorem DkS.of_sys {n : Nat} (hc : SysC D) (hk : Kl n D) : DkS n D := ⟨⟨hc.lim, hk.1, hc.nd, hk.2, fun y => Nat.le_trans (hc.kp.at_ y).1 Zd⟩, hc.kp⟩
theorem DkS.kl {n : Nat} (h : DkS n D) : Kl n D := ⟨h.b.len, h.b.key⟩
theorem SysC.of {n : Nat} (hw : DkW D) (hs : DkS n D) (hf : (D.at sysP).loose = false) : SysC D := ⟨hw.lim, hw.nd, hw.dir, hw.has, hw.files, hs.k, hf⟩
end
open Go Go.J Go.RowKit
abbrev Fn := List UInt8 → Option (List UInt8)
theorem applyF_dep : ∀ (l : List Chg) (k : List UInt8), (∃ v, ∀ f : Fn, applyF f l k = v) ∨ ∀ f : Fn, applyF f l k = f k
 |[], k => .inr fun _ => rfl
 |o :: l, k => by
  rcases applyF_dep l k with ⟨v, h⟩ | h
  ·exact .inl ⟨v, fun f => h (setF f o)⟩
  ·by_cases e : k = o.key
   ·refine .inl ⟨if o.gone then none else some o.val, fun f => ?_⟩
    show applyF (setF f o) l k = _
    rw [h]
    unfold setF
    rw [if_pos e]
   ·refine .inr fun f => ?_
    show applyF (setF f o) l k = _
    rw [h]
    unfold setF
    rw [if_neg e]
theorem foldF_flat : ∀ (ls : List (List Chg)) (f : Fn), ls.foldl applyF f = applyF f ls.flatten
 |[], f => rfl
 |l :: ls, f => by
  rw [List.foldl_cons, foldF_flat ls, List.flatten_cons]
  unfold applyF
  rw [List.foldl_append]
theorem foldF_idem (ls : List (List Chg)) (f : Fn) : ls.foldl applyF (ls.foldl applyF f) = ls.foldl applyF f := by
 rw [foldF_flat, foldF_flat]
 funext k
 rcases applyF_dep ls.flatten k with ⟨v, h⟩ | h
 ·rw [h, h]
 ·rw [h]
def FitF (f : Fn) : Prop := ∀ rows, RowsAre rows f → szR rows ≤ 33000000
structure OpsOk (l : List Chg) : Prop where
 clean : Clean l
 small : szL l ≤ 8000000
structure TabV (n : Nat) (bs : Option (List Chg)) (ls : List (List Chg)) (f : Fn) : Prop where
 few : ls.length ≤ n
 ops : ∀ l ∈ ls, OpsOk l
 bclean : Clean (bs.getD [])
 bsmall : szL (bs.getD []) ≤ 100000000
 val : rowsF bs ls = f
section
variable {D D' : Dk} {T : Tb} {bs : Option (List Chg)} {ls : List (List Chg)} {f : Fn} {l : List Chg} {rows : Rws} {n m : Nat}
theorem TabV.mono (h : TabV n bs ls f) (hm : n ≤ m) : TabV m bs ls f := ⟨Nat.le_trans h.few hm, h.ops, h.bclean, h.bsmall, h.val⟩
theorem TabV.wf (h : TabV n bs ls f) (hn : n ≤ 100) : TabW bs ls := ⟨by
 have h1 := frames_len (ls.map recordE) 8000010 (fun r hr => by
  obtain ⟨l, hl, rfl⟩ := List.mem_map.1 hr
  have h1 := (h.ops l hl).small
  have h2 := szL_len l
  have := recordE_len l (smO_of Zo) Zo
  omega) Zd
 have h2 := h.few
 rw [List.length_map] at h1
 have h3 : ls.length * (8000010 + 14) ≤ 100 * (8000010 + 14) := Nat.mul_le_mul_right _ Zo
 omega, fun l hl => (h.ops l hl).clean, fun l hl => (h.ops l hl).small, h.bclean, h.bsmall⟩
theorem TabV.are (h : TabV n bs ls f) : RowsAre (rowsOf bs ls) f := by rw [← h.val]; exact rowsOf_are bs ls
theorem ops_snoc (h : ∀ l ∈ ls, OpsOk l) (hl : OpsOk l) : ∀ x ∈ ls ++ [l], OpsOk x := fun x hx => by
 rcases List.mem_append.1 hx with hx | hx
 ·exact h x hx
 ·rw [List.mem_singleton.1 hx]; exact hl
theorem TabV.snoc (h : TabV n bs ls f) (hl : OpsOk l) : TabV (n + 1) bs (ls ++ [l]) (applyF f l) :=
 ⟨by rw [List.length_append]; exact Nat.succ_le_succ h.few, ops_snoc h.ops hl, h.bclean, h.bsmall, by
  show (ls ++ [l]).foldl applyF _ = _
  rw [List.foldl_append]
  show applyF (rowsF bs ls) l = _
  rw [h.val]⟩
theorem pack_val (hr : RowsAre rows f) (hz : FitF f) : applyF (fun _ => none) (packL rows) = f ∧ szL (packL rows) ≤ 100000000 :=
 ⟨funext (packL_rows hr), by rw [szL_pack hr.1]; have := hz rows hr; omega⟩
theorem TabV.packed (hr : RowsAre rows f) (hz : FitF f) : TabV 0 (some (packL rows)) [] f :=
 ⟨Nat.le_refl _, fun l hl => (by cases hl), packL_clean rows, (pack_val hr hz).2, (pack_val hr hz).1⟩
theorem TabV.half (h : TabV n bs ls f) (hl : OpsOk l) (hr : RowsAre rows (applyF f l)) (hz : FitF (applyF f l)) : TabV (n + 1) (some (packL rows)) (ls ++ [l]) (applyF f l) := by
 have hs := h.snoc hl
 refine ⟨hs.few, hs.ops, packL_clean rows, (pack_val hr hz).2, ?_⟩
 show (ls ++ [l]).foldl applyF (applyF (fun _ => none) (packL rows)) = _
 rw [(pack_val hr hz).1]
 have e : applyF f l = (ls ++ [l]).foldl applyF (applyF (fun _ => none) (bs.getD [])) := (hs.val).symm
 rw [e, foldF_idem]
def TabH (n : Nat) (D : Dk) (f : Fn) : Prop := ∃ bs ls, Post D bs ls ∧ TabV n bs ls f
def TabL (n : Nat) (T : Tb) (D : Dk) (f : Fn) : Prop := ∃ bs ls rows, T = ⟨sysP, rows, ⟨sysL, ls.map recordE, false⟩⟩ ∧ RowsAre rows f ∧ TabC D bs ls ∧ D.down = false ∧ TabV n bs ls f
theorem TabH.mono (h : TabH n D f) (hm : n ≤ m) : TabH m D f := by obtain ⟨bs, ls, hp, hv⟩ := h; exact ⟨bs, ls, hp, hv.mono hm⟩
theorem TabL.mono (h : TabL n T D f) (hm : n ≤ m) : TabL m T D f := by obtain ⟨bs, ls, rows, h1, h2, h3, h4, hv⟩ := h; exact ⟨bs, ls, rows, h1, h2, h3, h4, hv.mono hm⟩
theorem TabH.sysC (h : TabH n D f) : SysC D := by obtain ⟨bs, ls, hp, hv⟩ := h; exact hp.c
theorem TabH.restart (h : TabH n D f) (loss : Int) : Sys (D.restart loss) ∧ TabH n (D.restart loss) f := by
 obtain ⟨bs, ls, hp, hv⟩ := h
 exact ⟨(hp.restart loss).1, bs, ls, (hp.restart loss).2, hv⟩
theorem TabL.held (h : TabL n T D f) : TabH n D f := by
 obtain ⟨bs, ls, rows, rfl, hr, hc, hu, hv⟩ := h
 exact ⟨bs, ls, hc.post, hv⟩
theorem TabL.up (h : TabL n T D f) : D.down = false := by obtain ⟨_, _, _, _, _, _, hu, _⟩ := h; exact hu
theorem TabL.are (h : TabL n T D f) : RowsAre T.rows f := by obtain ⟨_, _, _, rfl, hr, _⟩ := h; exact hr
theorem TabL.same (h : TabL n T D f) (hc : SysC D') (hu : D'.down = false) (hg : ∀ p, sysF p → D'.get p = D.get p) : TabL n T D' f := by
 obtain ⟨bs, ls, rows, rfl, hr, ht, _, hv⟩ := h
 exact ⟨bs, ls, rows, rfl, hr, ⟨hc, ht.log.halt (hg _ sysF_L), baseIs_same (hg _ sysF_B) ht.base⟩, hu, hv⟩
theorem TabH.same (h : TabH n D f) (hc : SysC D') (hg : ∀ p, sysF p → D'.get p = D.get p) : TabH n D' f := by
 obtain ⟨bs, ls, hp, hv⟩ := h
 obtain ⟨tail, hk, ht⟩ := hp.log
 exact ⟨bs, ls, ⟨hc, ⟨tail, hk.halt (hg _ sysF_L), ht⟩, baseIs_same (hg _ sysF_B) hp.base⟩, hv⟩
theorem ops_rec (hl : OpsOk l) : (packE (recordE l)).length ≤ 8000030 ∧ (recordE l).length ≤ 8000010 := by
 have h1 := hl.small
 have h2 := szL_len l
 have h3 := recordE_len l (smO_of Zo) Zo
 have h4 := packE_len (recordE l)
 have h5 := putN_len10 (n := (recordE l).length) Zo
 omega
theorem pack_rec (hr : RowsAre rows f) (hz : FitF f) : (packE (recordE (packL rows))).length ≤ 100000030 ∧ (recordE (packL rows)).length ≤ 100000010 := by
 have h1 := (pack_val hr hz).2
 have h2 := szL_len (packL rows)
 have h3 := recordE_len (packL rows) (smO_of Zo) Zo
 have h4 := packE_len (recordE (packL rows))
 have h5 := putN_len10 (n := (recordE (packL rows)).length) Zo
 omega
theorem TabL.commit (h : TabL n T D f) (hn : n ≤ 99) (h15 : 15 ≤ n) (hne : l ≠ []) (hl : OpsOk l) (hz : FitF (applyF f l)) :
  ∃ e T' D', tabCommit T D l = (e, T', D') ∧ OpF sysF 8 D (e, D') ∧ SysC D' ∧ (e = 0 ∧ TabL n T' D' (applyF f l) ∨ e = 14 ∧ D'.down = true ∧ ∀ loss, TabH (n + 1) (D'.restart loss) f ∨ TabH (n + 1) (D'.restart loss) (applyF f l)) := by
 obtain ⟨bs, ls, rows, rfl, hr, hc, hu, hv⟩ := h
 have hwf := hv.wf Zo
 have ho := ops_rec hl
 have hra : RowsAre (applyE rows l) (applyF f l) := hr.apply
 have hpk := pack_rec hra hz
 have htot := hwf.tot
 obtain ⟨e, T', D', hcm, hor⟩ := hc.commit hu rows l hne (by unfold CB; omega) (by unfold CB; omega)
 have hF := opF_commit (D := D) (rows := rows) (recs := ls.map recordE) (dmg := false) (ops := l)
 rw [hcm] at hF
 refine ⟨e, T', D', hcm, hF, ?_⟩
 rcases hor with ⟨rfl, hcr⟩ | ⟨rfl, hu', bs', ls', rfl, ht, hbl⟩
 ·refine ⟨?_, .inr ⟨rfl, hF.dn rfl, fun loss => ?_⟩⟩
  ·rcases hcr with h | ⟨h, _⟩ | h | h
   ·exact h.c
   ·exact h
   ·exact h.c
   ·exact h.c
  ·obtain ⟨bs', ls', s1, p1, hw⟩ := hcr.restart Zo loss
   rcases hw with ⟨rfl, rfl⟩ | ⟨rfl, rfl⟩ | ⟨rfl, rfl⟩
   ·exact .inl ⟨_, _, p1, hv.mono (Nat.le_succ _)⟩
   ·exact .inr ⟨_, _, p1, hv.snoc hl⟩
   ·exact .inr ⟨_, _, p1, hv.half hl hra hz⟩
 ·refine ⟨ht.c, .inl ⟨rfl, ?_⟩⟩
  rcases hbl with ⟨rfl, rfl, hlt⟩ | ⟨rfl, rfl⟩
  ·have hs := hv.snoc hl
   exact ⟨_, _, _, rfl, hra, ht, hu', ⟨by rw [List.length_append]; simp; omega, hs.ops, hs.bclean, hs.bsmall, hs.val⟩⟩
  ·exact ⟨_, _, _, rfl, hra, ht, hu', (TabV.packed hra hz).mono (Nat.zero_le _)⟩
theorem TabH.open (h : TabH n D f) (hn : n ≤ 100) (hu : D.down = false) :
  ∃ D', OpF sysF 3 D ((tabOpen D sysP).1, D') ∧ SysC D' ∧ ((∃ T, tabOpen D sysP = (0, some T, D') ∧ TabL n T D' f) ∨ tabOpen D sysP = (14, none, D') ∧ D'.down = true ∧ TabH n D' f) := by
 obtain ⟨bs, ls, hp, hv⟩ := h
 have hwf := hv.wf hn
 have hF := opF_wopen (D := D)
 obtain ⟨D', ⟨h1, h2, h3⟩ | ⟨h1, h2⟩⟩ := hp.wopen hu hwf
 ·have ho : tabOpen D sysP = (0, some ⟨sysP, rowsOf bs ls, ⟨sysL, ls.map recordE, false⟩⟩, D') := by rw [open_of hp.c hu hp.base hwf, h1]; exact tabLog_of hwf D'
  rw [h1] at hF
  exact ⟨D', by rw [ho]; exact hF, h3.c, .inl ⟨_, ho, bs, ls, _, rfl, hv.are, h3, h2, hv⟩⟩
 ·have ho : tabOpen D sysP = (14, none, D') := by rw [open_of hp.c hu hp.base hwf, h1]; rfl
  rw [h1] at hF
  exact ⟨D', by rw [ho]; exact hF, h2.c, .inr ⟨ho, hF.dn rfl, bs, ls, h2, hv⟩⟩
end
open Go Go.J Go.RowKit
abbrev Nd := Int × List UInt8
@[reducible] def encN (n : Nd) : Value := .agg ⟨[.int .i64 n.1, str n.2]⟩
structure FolIs (D : Dk) (v : List UInt8) (C : List UInt8 → Prop) (F F' : List (List UInt8 × Nd)) (S S' : List (List UInt8 × Int)) : Prop where
 f1 : ∀ q, C (v ++ 47 :: q) → D.has (v ++ 47 :: q) = true → mget F' q = some (nodeD D v q)
 f0 : ∀ q, ¬ (C (v ++ 47 :: q) ∧ D.has (v ++ 47 :: q) = true) → mget F' q = mget F q
 s1 : ∀ q, C (v ++ 47 :: q) → D.has (v ++ 47 :: q) = true → (D.at (v ++ 47 :: q)).dir = false → mget S' q = some (D.at (v ++ 47 :: q)).stamp
 s0 : ∀ q, ¬ (C (v ++ 47 :: q) ∧ D.has (v ++ 47 :: q) = true) → mget S' q = mget S q
section
variable {D : Dk} {v : List UInt8} {C C' : List UInt8 → Prop} {F G H : List (List UInt8 × Nd)} {S T U : List (List UInt8 × Int)}
theorem FolIs.none (h : ∀ y, ¬ C y) : FolIs D v C F F S S := ⟨fun q h1 _ => absurd h1 (h _), fun _ _ => rfl, fun q h1 _ _ => absurd h1 (h _), fun _ _ => rfl⟩
theorem FolIs.step (h : FolIs D v C F G S T) (k : FolIs D v C' G H T U) : FolIs D v (fun y => C y ∨ C' y) F H S U := by
 refine ⟨fun q h1 h2 => ?_, fun q hn => ?_, fun q h1 h2 h3 => ?_, fun q hn => ?_⟩
 ·rcases Classical.em (C' (v ++ 47 :: q)) with e | e
  ·exact k.f1 q e h2
  ·rw [k.f0 q fun hh => e hh.1]
   exact h.f1 q (h1.resolve_right e) h2
 ·rw [k.f0 q fun hh => hn ⟨.inr hh.1, hh.2⟩, h.f0 q fun hh => hn ⟨.inl hh.1, hh.2⟩]
 ·rcases Classical.em (C' (v ++ 47 :: q)) with e | e
  ·exact k.s1 q e h2 h3
  ·rw [k.s0 q fun hh => e hh.1]
   exact h.s1 q (h1.resolve_right e) h2 h3
 ·rw [k.s0 q fun hh => hn ⟨.inr hh.1, hh.2⟩, h.s0 q fun hh => hn ⟨.inl hh.1, hh.2⟩]
theorem FolIs.congr (h : FolIs D v C F G S T) (hc : ∀ y, D.has y = true → (C y ↔ C' y)) : FolIs D v C' F G S T :=
 ⟨fun q h1 h2 => h.f1 q ((hc _ h2).2 h1) h2, fun q hn => h.f0 q fun hh => hn ⟨(hc _ hh.2).1 hh.1, hh.2⟩, fun q h1 h2 h3 => h.s1 q ((hc _ h2).2 h1) h2 h3, fun q hn => h.s0 q fun hh => hn ⟨(hc _ hh.2).1 hh.1, hh.2⟩⟩
theorem vq_inj {v q o : List UInt8} (h : v ++ 47 :: q = v ++ 47 :: o) : q = o := by
 rw [List.append_cancel_left_eq, List.cons.injEq] at h
 exact h.2
theorem FolIs.dir {o : List UInt8} (hd : (D.at (v ++ 47 :: o)).dir = true) (hh : D.has (v ++ 47 :: o) = true) : FolIs D v (fun y => y = v ++ 47 :: o) F (mset F o (1, [])) S S := by
 have hn : nodeD D v o = (1, []) := by
  unfold nodeD
  rw [Dk.at_get] at hd
  rw [Dk.has_get] at hh
  cases hg : D.get (v ++ 47 :: o) with
  |none => rw [hg] at hh; cases hh
  |some x => rw [hg] at hd; exact nd_dir hd
 refine ⟨fun q h1 h2 => ?_, fun q hx => ?_, fun q h1 h2 h3 => ?_, fun _ _ => rfl⟩
 ·obtain rfl := vq_inj h1
  rw [mget_set, if_pos rfl, hn]
 ·rw [mget_set, if_neg]
  rintro rfl
  exact hx ⟨rfl, hh⟩
 ·obtain rfl := vq_inj h1
  rw [hd] at h3; cases h3
theorem FolIs.file {o s : List UInt8} {n : Int} (hd : (D.at (v ++ 47 :: o)).dir = false) (hh : D.has (v ++ 47 :: o) = true) (hs : (D.at (v ++ 47 :: o)).data = s) (hn : (D.at (v ++ 47 :: o)).stamp = n) : FolIs D v (fun y => y = v ++ 47 :: o) F (mset F o (2, s)) S (mset S o n) := by
 have hnd : nodeD D v o = (2, s) := by
  unfold nodeD
  rw [Dk.at_get] at hd hs
  rw [Dk.has_get] at hh
  cases hg : D.get (v ++ 47 :: o) with
  |none => rw [hg] at hh; cases hh
  |some x => rw [hg] at hd hs; rw [← hs]; exact nd_file hd
 refine ⟨fun q h1 h2 => ?_, fun q hx => ?_, fun q h1 h2 h3 => ?_, fun q hx => ?_⟩
 ·obtain rfl := vq_inj h1
  rw [mget_set, if_pos rfl, hnd]
 ·rw [mget_set, if_neg]
  rintro rfl
  exact hx ⟨rfl, hh⟩
 ·obtain rfl := vq_inj h1
  rw [mget_set, if_pos rfl, hn]
 ·rw [mget_set, if_neg]
  rintro rfl
  exact hx ⟨rfl, hh⟩
end
def KnownOk (D : Dk) (v : List UInt8) (K : List (PK × Nd)) : Prop := ∀ o n nd, mgetP K (o, n) = some nd → D.has (v ++ 47 :: o) = true → (D.at (v ++ 47 :: o)).dir = false → (D.at (v ++ 47 :: o)).stamp = n → nd = (2, (D.at (v ++ 47 :: o)).data)
theorem stampTy : KeyTy Tryz.prog 233 := by
 refine ⟨fun a b => Zk, Zk, ⟨_, Tryz.underlying233⟩, fun a em w => ?_⟩
 obtain ⟨s, n⟩ := a
 exact run_checkKey_pair em 9998 Tryz.underlying233 Tryz.underlying9 Tryz.underlying3 Zk Zk
theorem kind_dir {D : Dk} {p : List UInt8} (hh : D.has p = true) (hd : (D.at p).dir = true) : D.kind p = 1 := by unfold Dk.kind; rw [hh, if_pos rfl, hd, if_pos rfl]
theorem kind_file {D : Dk} {p : List UInt8} (hh : D.has p = true) (hd : (D.at p).dir = false) : D.kind p = 2 := by unfold Dk.kind; rw [hh, if_pos rfl, hd, if_neg Zd]
theorem look_nodeP (m : List (PK × Nd)) (k : PK) : lookVP (encN (0, [])) (mmapP encN m) k true = .tuple #[encN ((mgetP m k).getD (0, [])), .bool (mgetP m k).isSome] := by
 unfold lookVP
 rw [mget_mapP]
 cases mgetP m k <;> rfl
def FolC (q mb lb wb kb fb sb : Nat) (D : Dk) (v : List UInt8) (K : List (PK × Nd)) (p : List UInt8) : Prop :=
 ∀ (F : List (List UInt8 × Nd)) (S : List (List UInt8 × Int)) (r : Int) (w0 : World), InL w0 [dkC q mb lb D, .box wb 229 [.pointer (some ⟨q, 0, none⟩), str v, .map (some kb), .map (some fb), .map (some sb), .int .i64 r], mapCP kb (mmapP encN K), mapC fb (mmap encN F), mapC sb (mmap encI S)] → Cal Tryz.prog 167 [.pointer (some ⟨wb, 0, none⟩), str p] w0
  (fun v' w' => v' = .int .i64 0 ∧ ∃ G T r2, FolIs D v (fun y => belB p y = true) F G S T ∧ MutL w0 w' [dkC q mb lb D, .box wb 229 [.pointer (some ⟨q, 0, none⟩), str v, .map (some kb), .map (some fb), .map (some sb), .int .i64 r], mapCP kb (mmapP encN K), mapC fb (mmap encN F), mapC sb (mmap encI S)] [dkC q mb lb D, .box wb 229 [.pointer (some ⟨q, 0, none⟩), str v, .map (some kb), .map (some fb), .map (some sb), .int .i64 r2], mapCP kb (mmapP encN K), mapC fb (mmap encN G), mapC sb (mmap encI T)])
theorem folder_step {q mb lb wb kb fb sb n : Nat} {D : Dk} {v p : List UInt8} {K : List (PK × Nd)} (hw : DkW D) (hu : D.down = false) (hB : DkB n D) (hn : n ≤ 500000) (hv : VolOk v) (hK : KnownOk D v K) (hp : p = v ∨ belB v p = true)
  (ih : ∀ y ∈ D.list p, (D.at y).dir = true → FolC q mb lb wb kb fb sb D v K y) : FolC q mb lb wb kb fb sb D v K p := by
 intro F S r w0 hI
 have hpn : p ≠ [] := by
  rcases hp with rfl | hp
  ·exact hv.ne
  ·intro e
   obtain ⟨x, hx⟩ := bel_iff.1 hp
   rw [e] at hx
   exact absurd (congrArg List.length hx) (by simp)
 have hfol := fun y (hy : D.has y = true) => bel_iff_list (y := y) hw hpn hy
 have hmem : ∀ k (h : k < (D.list p).length), D.has (D.list p)[k] = true ∧ belB v (D.list p)[k] = true ∧ (D.list p)[k].length ≤ 1099511627 := fun k h => by
  have h1 := (mem_list.1 (List.getElem_mem h)).1
  have h2 := list_bel hw hpn (List.getElem_mem h)
  refine ⟨h1, ?_, ?_⟩
  ·rcases hp with rfl | hp
   ·exact h2
   ·exact bel_trans hp h2
  ·obtain ⟨x, hx⟩ := Option.isSome_iff_exists.1 h1
   exact hB.key _ (mget_mem hx)
 have hll : (D.list p).length ≤ 500000 := by
  unfold Dk.list
  rw [sortL_len]
  refine Nat.le_trans (List.length_filter_le _ _) ?_
  rw [List.length_map]; exact Nat.le_trans hB.len hn
 have hls := fun (w : World) (hI : InL w [dkC q mb lb D]) => dlist_c (q := q) (mb := mb) (lb := lb) p hI (Nat.le_trans hB.len Zo) hB.key
 generalize D.list p = L at *
 refine Cal.mkL hI Zk Tryz.func167 rfl rfl fun hS => ?_
 repeat' (first | (show WL _ _ _ _ _ _ _; first | refine WL.pure rfl rfl rfl rfl ?_ | refine WL.nil ?_ | refine WL.load hS rfl rfl (LdOk.box (by repeat (first | exact Zh | apply List.Mem.tail)) rfl) rfl rfl rfl ?_ | (refine WL.callL (D := [dkC q mb lb D]) hS Pu rfl rfl (fun hI => hls _ hI) rfl rfl rfl ?_; rintro v' w ⟨A, cap, rfl, hm⟩ hS; replace hS := hS _ hm; clear hm)) | (show WC _ _ _ _ _ _; first | refine WC.seq ?_ | refine WC.region ?_ | refine WC.block ?_) | refine seqQ_n ?_)
 replace hS := hS.droplast2 (D := [dkC q mb lb D, .box wb 229 [.pointer (some ⟨q, 0, none⟩), str v, .map (some kb), .map (some fb), .map (some sb), .int .i64 r], mapCP kb (mmapP encN K), mapC fb (mmap encN F), mapC sb (mmap encI S), .own (.slice A L.length cap) 9 1 L.length (strs L)]) Pu
 refine WC.loop (σ := Nat × List (List UInt8 × Nd) × List (List UInt8 × Int) × Int) [0, 18, 19] (fun (k, _) => [(20, .int .i64 (k : Int))])
  (fun (k, G, T, r2) w => (k ≤ L.length ∧ FolIs D v (fun y => ∃ z ∈ L.take k, y = z ∨ ((D.at z).dir = true ∧ belB z y = true)) F G S T) ∧ St w0 (fps [dkC q mb lb D, .box wb 229 [.pointer (some ⟨q, 0, none⟩), str v, .map (some kb), .map (some fb), .map (some sb), .int .i64 r], mapCP kb (mmapP encN K), mapC fb (mmap encN F), mapC sb (mmap encI S)]) w [dkC q mb lb D, .box wb 229 [.pointer (some ⟨q, 0, none⟩), str v, .map (some kb), .map (some fb), .map (some sb), .int .i64 r2], mapCP kb (mmapP encN K), mapC fb (mmap encN G), mapC sb (mmap encI T), .own (.slice A L.length cap) 9 1 L.length (strs L)] (ZL w0 [dkC q mb lb D, .box wb 229 [.pointer (some ⟨q, 0, none⟩), str v, .map (some kb), .map (some fb), .map (some sb), .int .i64 r], mapCP kb (mmapP encN K), mapC fb (mmap encN F), mapC sb (mmap encI S)]))
  (fun (k, _) => L.length - k) (0, F, S, r) ⟨⟨Nat.zero_le _, .none fun y ⟨z, hz, _⟩ => (by simp at hz)⟩, hS⟩ ⟨rfl, trivial⟩ ?_
 clear hS
 rintro ⟨k, G, T, r2⟩ g w ⟨⟨hk, hG⟩, hS⟩
 show WC _ _ _ (lf _ [(20, .int .i64 (k : Int))] _ _) _ _
 by_cases hlt : k < L.length
 ·obtain ⟨g2, o2, rfl⟩ := own_some hS (by repeat (first | exact Zh | apply List.Mem.tail)) Zo
  have hel : (strs L)[k * 1]? = some (str L[k]) := by rw [Nat.mul_one, strs_at hlt]
  obtain ⟨m1, m2, m3⟩ := hmem k hlt
  have hih := ih _ (List.getElem_mem hlt)
  have htk : ∀ (P2 : List UInt8 → Prop), (∀ y, P2 y ↔ (y = L[k] ∨ ((D.at L[k]).dir = true ∧ belB L[k] y = true))) → ∀ y, ((∃ z ∈ L.take k, y = z ∨ ((D.at z).dir = true ∧ belB z y = true)) ∨ P2 y) ↔ ∃ z ∈ L.take (k + 1), y = z ∨ ((D.at z).dir = true ∧ belB z y = true) := fun P2 h2 y => by
   rw [List.take_succ_eq_append_getElem hlt, h2]
   constructor
   ·rintro (⟨z, h3, h4⟩ | h3)
    ·exact ⟨z, List.mem_append_left _ h3, h4⟩
    ·exact ⟨L[k], List.mem_append_right _ (List.mem_singleton.2 rfl), h3⟩
   ·rintro ⟨z, h3, h4⟩
    rcases List.mem_append.1 h3 with h3 | h3
    ·exact .inl ⟨z, h3, h4⟩
    ·rw [List.mem_singleton.1 h3] at h4; exact .inr h4
  generalize L[k] = y at *
  obtain ⟨o, rfl⟩ := bel_iff.1 m2
  have hol : v.length + 1 ≤ (v ++ 47 :: o).length := by simp
  have hown : (v ++ 47 :: o).drop (v.length + 1) = o := ownP_app v o
  have hvl : v.length ≤ 1099511627 := by rw [List.length_append] at m3; omega
  cases hdir : (D.at (v ++ 47 :: o)).dir with
  |true =>
   have hkd := kind_dir m1 hdir
   repeat' (first | (show WL _ _ _ _ _ _ _; first | refine WL.pure rfl rfl rfl rfl ?_ | refine WL.nil ?_ | refine WL.load hS rfl rfl (LdOk.box (by repeat (first | exact Zh | apply List.Mem.tail)) rfl) rfl rfl rfl ?_ | refine WL.add rfl rfl rfl Zo rfl rfl rfl ?_ | (refine WL.load hS rfl rfl (LdOk.ownAt (by repeat (first | exact Zh | apply List.Mem.tail)) rfl ⟨_, rfl⟩ hel rfl) rfl rfl rfl ?_) | (refine WL.lowS rfl rfl rfl rfl hol rfl rfl rfl ?_; rw [hown]) | (refine WL.calls hS rfl rfl (dkind_c _ (hS.holds (dkC q mb lb D) (by repeat (first | exact Zh | apply List.Mem.tail))).1) rfl rfl rfl ?_; rintro v' w rfl hS; rw [hkd]) | (refine WL.mset (u := encN (1, [])) hS (.inl rfl) rfl rfl rfl rfl Rp rfl rfl ?_; clear hS; intro w hS; rw [mset_map] at hS) | (refine WL.callL (D := [dkC q mb lb D, .box wb 229 [.pointer (some ⟨q, 0, none⟩), str v, .map (some kb), .map (some fb), .map (some sb), .int .i64 r2], mapCP kb (mmapP encN K), mapC fb (mmap encN (mset G o (1, []))), mapC sb (mmap encI T)]) hS Pu rfl rfl (fun hI => hih hdir _ _ _ _ hI) rfl rfl rfl ?_; rintro v' w ⟨rfl, G2, T2, r3, hG2, hm⟩ hS; replace hS := hS _ hm; clear hm) | refine WL.index rfl rfl rfl rfl Zw rfl rfl rfl rfl ?_ | refine WL.build rfl rfl rfl rfl rfl ?_) | (show WC _ _ _ _ _ _; first | refine WC.seq ?_ | refine WC.region ?_ | refine WC.block ?_ | refine WC.skip ?_ | refine WC.exit ?_ | refine WC.condT rfl Zd ?_ | refine WC.condF rfl Zd ?_ | refine WC.condT rfl (decide_eq_true Zw) ?_) | refine seqQ_n ?_ | refine seqQ_x ?_ | refine blkQ_hit rfl ?_)
   exact rndQ_n (k + 1, G2, T2, r3) ⟨⟨hlt, (hG.step ((FolIs.dir hdir m1).step hG2)).congr fun y _ => htk (fun y => y = v ++ 47 :: o ∨ belB (v ++ 47 :: o) y = true) (fun y => by rw [hdir]; simp) y⟩, hS.droplast2 (D := [dkC q mb lb D, .box wb 229 [.pointer (some ⟨q, 0, none⟩), str v, .map (some kb), .map (some fb), .map (some sb), .int .i64 r3], mapCP kb (mmapP encN K), mapC fb (mmap encN G2), mapC sb (mmap encI T2), .own (.slice (some ⟨g2, o2, none⟩) L.length cap) 9 1 L.length (strs L)]) Pu⟩ (by show L.length - (k + 1) < L.length - k; omega) ⟨vint Zo, trivial⟩ ⟨rfl, rfl, rfl, trivial⟩
  |false =>
   have hkd := kind_file m1 hdir
   have hds := fun (w : World) (h : DkIs q mb lb D w) => dstamp_c (v ++ 47 :: o) h
   have hrd := fun (w : World) (h : DkIs q mb lb D w) => dread_c (v ++ 47 :: o) h
   have hread : D.read (v ++ 47 :: o) = ((D.at (v ++ 47 :: o)).data, 0) := by
    unfold Dk.read
    rw [hu, if_neg Zd, m1, if_neg Zd, hdir, if_neg Zd]
   rw [hread] at hrd
   have hlk := look_nodeP K (o, (D.at (v ++ 47 :: o)).stamp)
   have hkk := fun nd (h : mgetP K (o, (D.at (v ++ 47 :: o)).stamp) = some nd) => hK o _ nd h m1 hdir rfl
   have hff : FolIs D v (fun y => y = v ++ 47 :: o) G (mset G o (2, (D.at (v ++ 47 :: o)).data)) T (mset T o (D.at (v ++ 47 :: o)).stamp) := FolIs.file hdir m1 rfl rfl
   have hfin := (hG.step hff).congr fun y _ => htk (fun y => y = v ++ 47 :: o) (fun y => by rw [hdir]; simp) y
   clear hff hread htk
   generalize (D.at (v ++ 47 :: o)).data = dat at *
   generalize (D.at (v ++ 47 :: o)).stamp = st at *
   obtain ⟨on, hon⟩ : ∃ on, mgetP K (o, st) = on := ⟨_, rfl⟩
   rw [hon] at hlk
   cases on with
   |none =>
    clear hkk
    replace hlk : lookVP (encN (0, [])) (mmapP encN K) (o, st) true = .tuple #[encN (0, []), .bool false] := hlk
    repeat' (first | (show WL _ _ _ _ _ _ _; first | refine WL.pure rfl rfl rfl rfl ?_ | refine WL.nil ?_ | refine WL.load hS rfl rfl (LdOk.box (by repeat (first | exact Zh | apply List.Mem.tail)) rfl) rfl rfl rfl ?_ | refine WL.add rfl rfl rfl Zo rfl rfl rfl ?_ | (refine WL.load hS rfl rfl (LdOk.ownAt (by repeat (first | exact Zh | apply List.Mem.tail)) rfl ⟨_, rfl⟩ hel rfl) rfl rfl rfl ?_) | (refine WL.lowS rfl rfl rfl rfl hol rfl rfl rfl ?_; rw [hown]) | (refine WL.calls hS rfl rfl (dkind_c _ (hS.holds (dkC q mb lb D) (by repeat (first | exact Zh | apply List.Mem.tail))).1) rfl rfl rfl ?_; rintro v' w rfl hS; rw [hkd]) | refine WL.index rfl rfl rfl rfl Zw rfl rfl rfl rfl ?_) | (show WC _ _ _ _ _ _; first | refine WC.seq ?_ | refine WC.region ?_ | refine WC.block ?_ | refine WC.skip ?_ | refine WC.condF rfl Zd ?_ | refine WC.condT rfl (decide_eq_true Zw) ?_) | refine seqQ_n ?_)
    refine WC.drawLP [] hS Pulls.nil [0,1,2,3,4,5,6,7,8,9,11,12,13,14,15,18] [0,1,2,3,4,5,6,7,8,9] (.two 10 [11,12,13,14,15,16,17,18] .nil 16 [10,11,12,13,14,15,17,18] .nil) Zk Zk ?_
    clear hS
    intro w hS hM
    repeat' (first | (show WL _ _ _ _ _ _ _; first | refine WL.pure rfl rfl rfl rfl ?_ | refine WL.nil ?_ | refine WL.load hS rfl rfl (LdOk.box (by repeat (first | exact Zh | apply List.Mem.tail)) rfl) rfl rfl rfl ?_ | refine WL.add rfl rfl rfl Zo rfl rfl rfl ?_ | (refine WL.calls hS rfl rfl (hrd _ (hS.holds (dkC q mb lb D) (by repeat (first | exact Zh | apply List.Mem.tail))).1) rfl rfl rfl ?_; rintro v' w rfl hS) | (refine WL.addW (a := r2) rfl rfl rfl rfl rfl rfl ?_) | (refine WL.store hS rfl rfl rfl Sb rfl rfl rfl ?_; intro w hS) | refine WL.build rfl rfl rfl rfl rfl ?_) | (show WC _ _ _ _ _ _; first | refine WC.seq ?_ | refine WC.region ?_ | refine WC.skip ?_ | (show WC _ _ (Code.region _ (List.toArray [_, _, _, _, _, _, _, _, _, _, _, _, _, _, _, _, _, _, _, _, _, _, _]) true) _ _ _; refine WC.drawL [mapC fb (mmap encN G), mapC sb (mmap encI T)] hS Pu [0,1,2,3,4,5,6,7,8,9,10,11,12,13,14,15,18,21] [0,1,2,3,4,5,6,7,8,9,10,11,12,13,14,15,16,17,18,19,20,21,22] Zk Zk ?_; clear hS; intro w hS hM) | refine WC.condT rfl Zd ?_ | refine WC.condF rfl (decide_eq_false Zw) ?_) | (show WD _ _ _ _ _ _ _ _ _; first | refine WD.pure rfl rfl rfl rfl rfl ?_ | refine WD.nil ?_ | refine WD.load rfl rfl (LdOk.box (by repeat (first | exact Zh | apply List.Mem.tail)) rfl) rfl rfl rfl rfl ?_ | (refine WD.fork ?_ ?_) | (refine WD.calls hS hM rfl rfl (hds _ (hS.holds (dkC q mb lb D) (by repeat (first | exact Zh | apply List.Mem.tail))).1) rfl rfl rfl rfl rfl ?_; clear hS; rintro v' w rfl hS) | (refine WD.alloc hS hM rfl rfl rfl rfl rfl rfl rfl rfl ?_; clear hS hM; intro w nb hS hM) | (refine WD.mgetP (s := (o, st)) rfl rfl stampTy rfl rfl (.mk' (by repeat (first | exact Zh | apply List.Mem.tail))) hlk rfl rfl rfl rfl ?_) | (refine WD.store hS rfl rfl rfl Sb rfl (by first | exact .refl _ _ | exact .chunk (.refl _ _) _ | exact .chunk (.chunk (.refl _ _) _) _) rfl rfl rfl rfl ?_; clear hS hM; intro w hS hM) | (refine WD.mapEntry hS rfl rfl rfl rfl (fun n => Rp) (fun n => (by first | exact .refl _ _ | exact .chunk (.refl _ _) _ | exact .chunk (.chunk (.refl _ _) _) _)) rfl rfl rfl rfl rfl ?_; clear hS hM; intro w bn hS hM) | (refine WD.entryStore (u := encN (2, dat)) hS rfl rfl rfl rfl Rp (by first | exact .refl _ _ | exact .chunk (.refl _ _) _ | exact .chunk (.chunk (.refl _ _) _) _) rfl rfl rfl rfl ?_; clear hS hM; intro w hS hM; rw [mset_entM, mset_map] at hS hM) | (refine WD.entryStore (u := encI st) hS rfl rfl rfl rfl Rp (by first | exact .refl _ _ | exact .chunk (.refl _ _) _ | exact .chunk (.chunk (.refl _ _) _) _) rfl rfl rfl rfl ?_; clear hS hM; intro w hS hM; rw [mset_entM, mset_map] at hS hM) | refine WD.build rfl rfl rfl rfl rfl rfl ?_) | (refine WDo.calls hS hM rfl rfl (hds _ (hS.holds (dkC q mb lb D) (by repeat (first | exact Zh | apply List.Mem.tail))).1) rfl rfl rfl rfl ?_; clear hS; rintro v' w rfl hS) | (refine WDo.alloc hS hM rfl rfl rfl rfl rfl rfl rfl ?_; clear hS hM; intro w nb hS hM) | refine seqQ_n ?_ | refine blkQ_n ?_)
    all_goals exact rndQ_n (k + 1, mset G o (2, dat), mset T o st, (IntKind.i64.wrap (r2 + 1))) ⟨⟨hlt, hfin⟩, hS.droplast2 (D := [dkC q mb lb D, .box wb 229 [.pointer (some ⟨q, 0, none⟩), str v, .map (some kb), .map (some fb), .map (some sb), .int .i64 (IntKind.i64.wrap (r2 + 1))], mapCP kb (mmapP encN K), mapC fb (mmap encN (mset G o (2, dat))), mapC sb (mmap encI (mset T o st)), .own (.slice (some ⟨g2, o2, none⟩) L.length cap) 9 1 L.length (strs L)]) Pu⟩ (by show L.length - (k + 1) < L.length - k; omega) ⟨vint Zo, trivial⟩ ⟨rfl, rfl, rfl, trivial⟩
   |some nd =>
    obtain rfl := hkk nd hon
    clear hkk
    replace hlk : lookVP (encN (0, [])) (mmapP encN K) (o, st) true = .tuple #[encN (2, dat), .bool true] := hlk
    repeat' (first | (show WL _ _ _ _ _ _ _; first | refine WL.pure rfl rfl rfl rfl ?_ | refine WL.nil ?_ | refine WL.load hS rfl rfl (LdOk.box (by repeat (first | exact Zh | apply List.Mem.tail)) rfl) rfl rfl rfl ?_ | refine WL.add rfl rfl rfl Zo rfl rfl rfl ?_ | (refine WL.load hS rfl rfl (LdOk.ownAt (by repeat (first | exact Zh | apply List.Mem.tail)) rfl ⟨_, rfl⟩ hel rfl) rfl rfl rfl ?_) | (refine WL.lowS rfl rfl rfl rfl hol rfl rfl rfl ?_; rw [hown]) | (refine WL.calls hS rfl rfl (dkind_c _ (hS.holds (dkC q mb lb D) (by repeat (first | exact Zh | apply List.Mem.tail))).1) rfl rfl rfl ?_; rintro v' w rfl hS; rw [hkd]) | refine WL.index rfl rfl rfl rfl Zw rfl rfl rfl rfl ?_) | (show WC _ _ _ _ _ _; first | refine WC.seq ?_ | refine WC.region ?_ | refine WC.block ?_ | refine WC.skip ?_ | refine WC.condF rfl Zd ?_ | refine WC.condT rfl (decide_eq_true Zw) ?_) | refine seqQ_n ?_)
    refine WC.drawLP [] hS Pulls.nil [0,1,2,3,4,5,6,7,8,9,11,12,13,14,15,18] [0,1,2,3,4,5,6,7,8,9] (.two 10 [11,12,13,14,15,16,17,18] .nil 16 [10,11,12,13,14,15,17,18] .nil) Zk Zk ?_
    clear hS
    intro w hS hM
    repeat' (first | (show WL _ _ _ _ _ _ _; first | refine WL.pure rfl rfl rfl rfl ?_ | refine WL.nil ?_ | refine WL.add rfl rfl rfl Zo rfl rfl rfl ?_) | (show WC _ _ _ _ _ _; first | refine WC.seq ?_ | refine WC.region ?_ | refine WC.skip ?_ | (show WC _ _ (Code.region _ (List.toArray [_, _, _, _, _, _, _, _, _, _, _, _, _, _, _, _, _, _, _, _, _, _, _]) true) _ _ _; refine WC.drawL [mapC fb (mmap encN G), mapC sb (mmap encI T)] hS Pu [0,1,2,3,4,5,6,7,8,9,10,11,12,13,14,15,18,21] [0,1,2,3,4,5,6,7,8,9,10,11,12,13,14,15,16,17,18,19,20,21,22] Zk Zk ?_; clear hS; intro w hS hM) | refine WC.condF rfl Zd ?_) | (show WD _ _ _ _ _ _ _ _ _; first | refine WD.pure rfl rfl rfl rfl rfl ?_ | refine WD.nil ?_ | refine WD.load rfl rfl (LdOk.box (by repeat (first | exact Zh | apply List.Mem.tail)) rfl) rfl rfl rfl rfl ?_ | (refine WD.fork ?_ ?_) | (refine WD.calls hS hM rfl rfl (hds _ (hS.holds (dkC q mb lb D) (by repeat (first | exact Zh | apply List.Mem.tail))).1) rfl rfl rfl rfl rfl ?_; clear hS; rintro v' w rfl hS) | (refine WD.alloc hS hM rfl rfl rfl rfl rfl rfl rfl rfl ?_; clear hS hM; intro w nb hS hM) | (refine WD.mgetP (s := (o, st)) rfl rfl stampTy rfl rfl (.mk' (by repeat (first | exact Zh | apply List.Mem.tail))) hlk rfl rfl rfl rfl ?_) | (refine WD.store hS rfl rfl rfl Sb rfl (by first | exact .refl _ _ | exact .chunk (.refl _ _) _ | exact .chunk (.chunk (.refl _ _) _) _) rfl rfl rfl rfl ?_; clear hS hM; intro w hS hM) | (refine WD.mapEntry hS rfl rfl rfl rfl (fun n => Rp) (fun n => (by first | exact .refl _ _ | exact .chunk (.refl _ _) _ | exact .chunk (.chunk (.refl _ _) _) _)) rfl rfl rfl rfl rfl ?_; clear hS hM; intro w bn hS hM) | (refine WD.entryStore (u := encN (2, dat)) hS rfl rfl rfl rfl Rp (by first | exact .refl _ _ | exact .chunk (.refl _ _) _ | exact .chunk (.chunk (.refl _ _) _) _) rfl rfl rfl rfl ?_; clear hS hM; intro w hS hM; rw [mset_entM, mset_map] at hS hM) | (refine WD.entryStore (u := encI st) hS rfl rfl rfl rfl Rp (by first | exact .refl _ _ | exact .chunk (.refl _ _) _ | exact .chunk (.chunk (.refl _ _) _) _) rfl rfl rfl rfl ?_; clear hS hM; intro w hS hM; rw [mset_entM, mset_map] at hS hM) | refine WD.build rfl rfl rfl rfl rfl rfl ?_) | (refine WDo.calls hS hM rfl rfl (hds _ (hS.holds (dkC q mb lb D) (by repeat (first | exact Zh | apply List.Mem.tail))).1) rfl rfl rfl rfl ?_; clear hS; rintro v' w rfl hS) | (refine WDo.alloc hS hM rfl rfl rfl rfl rfl rfl rfl ?_; clear hS hM; intro w nb hS hM) | refine seqQ_n ?_ | refine blkQ_n ?_)
    all_goals exact rndQ_n (k + 1, mset G o (2, dat), mset T o st, r2) ⟨⟨hlt, hfin⟩, hS.droplast2 (D := [dkC q mb lb D, .box wb 229 [.pointer (some ⟨q, 0, none⟩), str v, .map (some kb), .map (some fb), .map (some sb), .int .i64 r2], mapCP kb (mmapP encN K), mapC fb (mmap encN (mset G o (2, dat))), mapC sb (mmap encI (mset T o st)), .own (.slice (some ⟨g2, o2, none⟩) L.length cap) 9 1 L.length (strs L)]) Pu⟩ (by show L.length - (k + 1) < L.length - k; omega) ⟨vint Zo, trivial⟩ ⟨rfl, rfl, rfl, trivial⟩
 ·have e : k = L.length := Zo
  subst e
  rw [List.take_length] at hG
  repeat' (first | (show WL _ _ _ _ _ _ _; first | refine WL.pure rfl rfl rfl rfl ?_ | refine WL.nil ?_) | (show WC _ _ _ _ _ _; first | refine WC.seq ?_ | refine WC.region ?_ | refine WC.exit ?_ | refine WC.ret ?_ | refine WC.condF rfl (decide_eq_false Zw) ?_) | refine seqQ_n ?_ | refine seqQ_x ?_ | refine blkQ_hit rfl ?_ | refine rndQ_x ?_)
  exact fin1r rfl rfl ⟨rfl, G, T, r2, hG.congr fun y hy => (hfol y hy).symm, hS.mutLp Pu⟩
theorem folder_c {q mb lb wb kb fb sb n : Nat} {D : Dk} {v : List UInt8} {K : List (PK × Nd)} (hw : DkW D) (hu : D.down = false) (hB : DkB n D) (hn : n ≤ 500000) (hv : VolOk v) (hK : KnownOk D v K) :
  ∀ (m : Nat) (p : List UInt8), (p = v ∨ belB v p = true) → 6 - deepE p ≤ (m : Int) → FolC q mb lb wb kb fb sb D v K p := by
 have ne : ∀ p, (p = v ∨ belB v p = true) → p ≠ [] := fun p hp => by
  rcases hp with rfl | hp
  ·exact hv.ne
  ·intro e
   obtain ⟨x, hx⟩ := bel_iff.1 hp
   rw [e] at hx
   exact absurd (congrArg List.length hx) (by simp)
 intro m
 induction m with
 |zero =>
  intro p hp hm
  refine folder_step hw hu hB hn hv hK hp fun y hy _ => ?_
  have := list_deep hw (ne p hp) hy
  omega
 |succ m ihm =>
  intro p hp hm
  refine folder_step hw hu hB hn hv hK hp fun y hy _ => ihm y ?_ ?_
  ·have h2 := list_bel hw (ne p hp) hy
   rcases hp with rfl | hp
   ·exact .inr h2
   ·exact .inr (bel_trans hp h2)
  ·have := list_deep hw (ne p hp) hy
   omega
open Go Go.J Go.RowKit Go.Maps Go.Sort Go.Shelf
def keysNT : TypeId := Tryz.keysNL_ren.t 23
theorem mapsKeysN_c (mb : Nat) (w : World) : Cal Tryz.prog 168 [.map (some mb)] w fun v w' => v = .func (.func 198) ⟨[]⟩ ⟨[.pointer (some ⟨w.heap.size, 0, none⟩)]⟩ ∧ w' = w.alloc (.cells ⟨[.map (some mb)]⟩ keysNT) :=
 ⟨Zk, (callsIn_wide.1 (AnyZ.keys_in Tryz.keysNL Fence.wide 5 trivial rfl (some mb) w)).mono fun e w' ⟨h1, h2⟩ => ⟨_, h1, rfl, h2⟩⟩
theorem mapsKeysN_n (mb : Nat) (w : World) : Cal Tryz.prog 168 [.map (some mb)] w fun v w' => ∃ x, v = .func (.func 198) ⟨[]⟩ ⟨[.pointer (some ⟨x, 0, none⟩)]⟩ ∧ Upd [] w w' ∧ New w w' (.box x keysNT [.map (some mb)]) :=
 (mapsKeysN_c mb w).mono fun v w' ⟨h1, h2⟩ => by
  subst h2
  have hh := heap_alloc_new w (.cells ⟨[.map (some mb)]⟩ keysNT)
  exact ⟨_, h1, .alloc _ _ _, ⟨hh, fun b hb => by simp [Chunk.fp] at hb; subst hb; simp⟩⟩
theorem sortedN_c {x mb : Nat} {m : KV} {w : World} (hx : w.heap[x]? = some (.cells ⟨[.map (some mb)]⟩ keysNT (0, 0))) (hm : MapIs mb m w) (hl : m.length ≤ 1048576) (hkl : ∀ p ∈ m, p.1.length ≤ 1099511627776) :
  Cal Tryz.prog 75 [.func (.func 198) ⟨[]⟩ ⟨[.pointer (some ⟨x, 0, none⟩)]⟩] w fun v w' => Upd [] w w' ∧ ∃ A cap, v = .slice A m.length cap ∧
   New w w' (.own (.slice A m.length cap) 9 1 m.length (strs ((m.map Prod.fst).mergeSort (fun x y => decide (x ≤ y))))) := by
 have hmx : m.length ≤ maxLen := by unfold maxLen; omega
 obtain ⟨D0, hown, hperm, hsz⟩ := own_of_map Tryz.underlying9 hm hmx (fun p hp => by have := hkl p hp; unfold maxLen; omega)
 have hxl : x < w.heap.size := (Array.getElem?_eq_some_iff.1 hx).1
 have hseq : SeqGives Fence.wide 2 Tryz.prog 198 #[.pointer (some ⟨x, 0, none⟩)] encStr (fun ss => ss.Perm (strKeys D0)) (Maps.size D0) w :=
  AnyZ.keys_gives (ρ := Tryz.keysNL_ren) { Tryz.keysNL with } Fence.wide _ trivial rfl Zo x mb m.length D0 _ hxl (by rw [cell_of_row w x 0 _ _ _ hx]; rfl) hown
 have cS := AnyZ.sorted_in Tryz.sortedL Fence.wide 5 trivial trivial trivial trivial rfl Zo (sortsL _) (enters_of Tryz.func138 Zk rfl) 198 #[.pointer (some ⟨x, 0, none⟩)] trivial (enters_of Tryz.func198 Zk rfl) _ _ (by rw [hsz]; exact hmx) (by rw [hsz]; omega) _ hseq
 change CallsIn _ _ Tryz.prog 75 _ _ _ at cS
 refine ⟨Zk, (callsIn_wide.1 cS).mono fun e w' ⟨v, ss, he, hS, hrow, hnil, hb⟩ => ⟨v, he, .of_below hb, ?_⟩⟩
 have hp : ss.Perm (m.map Prod.fst) := hS.trans hperm
 have hlen : ss.length = m.length := by rw [hp.length_eq, List.length_map]
 have hms : ss.mergeSort (fun x y => decide (x ≤ y)) = (m.map Prod.fst).mergeSort (fun x y => decide (x ≤ y)) := mergeSort_of_perm hp
 rw [hms, hlen] at hrow
 have hst : ((m.map Prod.fst).mergeSort (fun x y => decide (x ≤ y))).map encStr = strs ((m.map Prod.fst).mergeSort (fun x y => decide (x ≤ y))) := by
  generalize (m.map Prod.fst).mergeSort (fun x y => decide (x ≤ y)) = l
  induction l with
  |nil => rfl
  |cons a l ih => simp only [List.map_cons, ih]; rfl
 rw [hst] at hrow
 have hrow' := hrow
 rcases hrow.2 with ⟨rfl, hz⟩ | ⟨g, cap, cur, rfl, hg, hh, _⟩
 ·refine ⟨none, 0, by rw [hz], ⟨?_, fun b hb => by simp [Chunk.fp, Value.ownBlock] at hb⟩⟩
  have := RowAt.of_owns hrow
  rwa [hz] at this ⊢
 ·exact ⟨_, _, rfl, ⟨RowAt.of_owns hrow', fun b hb => by
   simp [Chunk.fp, Value.ownBlock] at hb
   subst hb
   exact ⟨hg, (Array.getElem?_eq_some_iff.1 hh).1⟩⟩⟩
open Go Go.J Go.RowKit
structure Sn where
 path : List UInt8
 stamp : Int
 kind : Int
 data : List UInt8
instance : Inhabited Sn := ⟨⟨[], 0, 0, []⟩⟩
def encSn (s : Sn) : List Value := [str s.path, .int .i64 s.stamp, .int .i64 s.kind, str s.data]
def cSn : Cod Sn := .flat encSn 4 fun _ => rfl
def SeenOk (D : Dk) (v : List UInt8) (l : List Sn) : Prop := ∀ s ∈ l, s.kind = 2 → D.has (v ++ 47 :: s.path) = true → (D.at (v ++ 47 :: s.path)).dir = false → (D.at (v ++ 47 :: s.path)).stamp = s.stamp → s.data = (D.at (v ++ 47 :: s.path)).data
structure NowIs (D : Dk) (v : List UInt8) (l : List Sn) : Prop where
 ents : l.map (fun s => (⟨s.path, s.kind, s.data⟩ : Ent)) = walkE D v
 st : ∀ s ∈ l, s.kind = 2 → s.stamp = (D.at (v ++ 47 :: s.path)).stamp
def knownE (l : List Sn) : List (PK × Nd) := l.foldl (fun K s => if s.kind = 2 then msetP K (s.path, s.stamp) (s.kind, s.data) else K) []
theorem known_snoc (l : List Sn) (s : Sn) : knownE (l ++ [s]) = if s.kind = 2 then msetP (knownE l) (s.path, s.stamp) (s.kind, s.data) else knownE l := by unfold knownE; rw [List.foldl_append]; rfl
theorem known_mem (l : List Sn) : ∀ o n nd, mgetP (knownE l) (o, n) = some nd → ∃ s ∈ l, s.kind = 2 ∧ s.path = o ∧ s.stamp = n ∧ nd = (2, s.data) := by
 refine snoc_ind (P := fun l => ∀ o n nd, mgetP (knownE l) (o, n) = some nd → ∃ s ∈ l, s.kind = 2 ∧ s.path = o ∧ s.stamp = n ∧ nd = (2, s.data)) ?_ (fun l s ih => ?_) l
 ·intro o n nd h; cases h
 ·intro o n nd h
  rw [known_snoc] at h
  split at h
  ·rename_i hk
   rw [mget_setP] at h
   split at h
   ·rename_i e
    simp only [Prod.mk.injEq] at e
    refine ⟨s, by simp, hk, e.1.symm, e.2.symm, ?_⟩
    rw [← Option.some.inj h, hk]
   ·obtain ⟨x, h1, h2⟩ := ih o n nd h
    exact ⟨x, List.mem_append_left _ h1, h2⟩
  ·obtain ⟨x, h1, h2⟩ := ih o n nd h
   exact ⟨x, List.mem_append_left _ h1, h2⟩
theorem known_ok {D : Dk} {v : List UInt8} {l : List Sn} (h : SeenOk D v l) : KnownOk D v (knownE l) := by
 intro o n nd hk h1 h2 h3
 obtain ⟨s, hs, k2, rfl, rfl, rfl⟩ := known_mem l o n nd hk
 rw [h s hs k2 h1 h2 h3]
section
variable {D : Dk} {v : List UInt8} {F : List (List UInt8 × Nd)} {S : List (List UInt8 × Int)}
theorem found_keys (hv : v ≠ []) (h : FolIs D v (fun y => belB v y = true) [] F [] S) (hn : (F.map Prod.fst).Nodup) (hd : (D.items.map Prod.fst).Nodup) : keysE F = ownsE D v := by
 have hp : (F.map Prod.fst).Perm ((D.belows v).map (ownP v)) := by
  refine (List.perm_ext_iff_of_nodup hn ?_).2 fun q => ?_
  ·have := owns_nodup (v := v) hd
   unfold ownsE at this
   exact (List.mergeSort_perm _ _).nodup_iff.1 this
  ·have h1 : q ∈ (D.belows v).map (ownP v) ↔ D.has (v ++ 47 :: q) = true := by
    rw [← mem_owns (D := D) (v := v)]
    exact (List.mergeSort_perm _ _).mem_iff.symm
   rw [h1]
   constructor
   ·intro hm
    refine Classical.byContradiction fun hno => ?_
    have := h.f0 q fun hh => hno hh.2
    exact mget_none.1 this hm
   ·intro hh
    have := h.f1 q (bel_app _ _) hh
    refine Classical.byContradiction fun hno => ?_
    rw [mget_none.2 hno] at this; cases this
 unfold keysE ownsE
 exact sort_perm' hp
theorem found_look (h : FolIs D v (fun y => belB v y = true) [] F [] S) {q : List UInt8} (hq : q ∈ ownsE D v) : lookV (encN (0, [])) (mmap encN F) q false = encN (nodeD D v q) := by
 have := h.f1 q (bel_app _ _) (mem_owns.1 hq)
 unfold lookV
 rw [mget_map, this]
 rfl
theorem stamp_look (S : List (List UInt8 × Int)) (q : List UInt8) : lookV (encI 0) (mmap encI S) q false = .int .i64 ((mget S q).getD 0) := by
 unfold lookV
 rw [mget_map]
 cases mget S q <;> rfl
def snOf (D : Dk) (v : List UInt8) (S : List (List UInt8 × Int)) (q : List UInt8) : Sn := ⟨q, (mget S q).getD 0, (nodeD D v q).1, (nodeD D v q).2⟩
theorem now_is (h : FolIs D v (fun y => belB v y = true) [] F [] S) : NowIs D v ((ownsE D v).map (snOf D v S)) := by
 refine ⟨by rw [List.map_map]; rfl, fun s hs hk => ?_⟩
 obtain ⟨q, hq, rfl⟩ := List.mem_map.1 hs
 have hh := mem_owns.1 hq
 have hk : (nodeD D v q).1 = 2 := hk
 have hd : (D.at (v ++ 47 :: q)).dir = false := by
  cases e : (D.at (v ++ 47 :: q)).dir with
  |false => rfl
  |true => rw [show (nodeD D v q).1 = 1 from dir_kind.1 e] at hk; cases hk
 have := h.s1 q (bel_app _ _) hh hd
 show (mget S q).getD 0 = _
 rw [this]; rfl
end
abbrev snC (A : Option Addr) (c : Nat) (s : List Sn) : Chunk := .own (.slice A s.length c) 231 4 s.length (s.flatMap encSn)
theorem snC_snoc {A : Option Addr} {c : Nat} {s : List Sn} {e : Sn} : Chunk.own (.slice A (s.length + 1) c) 231 4 (s.length + 1) (s.flatMap encSn ++ encSn e) = snC A c (s ++ [e]) := by
 unfold snC
 rw [List.flatMap_append, List.length_append]
 rfl
theorem scan_c {q mb lb n : Nat} {D : Dk} {v : List UInt8} {A : Option Addr} {cap : Nat} {seen : List Sn} {w0 : World} (hI : InL w0 [dkC q mb lb D]) (hA : SlAt cSn (fun b => b < w0.heap.size ∧ b ∉ fps [dkC q mb lb D]) w0 A seen) (hl : seen.length ≤ 1048576) (hse : SeenOk D v seen)
  (hw : DkW D) (hu : D.down = false) (hB : DkB n D) (hn : n ≤ 500000) (hv : VolOk v) (hd : (D.at v).dir = true) :
  Cal Tryz.prog 117 [.pointer (some ⟨q, 0, none⟩), str v, .slice A seen.length cap] w0
   (fun v' w' => ∃ AT ct AN cn nl r, NowIs D v nl ∧ v' = .tuple #[.slice AT (walkE D v).length ct, .slice AN nl.length cn, .int .i64 r, .int .i64 0] ∧ MutL w0 w' [dkC q mb lb D] [dkC q mb lb D, eC AT ct (walkE D v), snC AN cn nl]) := by
 refine Cal.mkL hI Zk Tryz.func117 rfl rfl fun hS => ?_
 obtain ⟨v1, v2, v3⟩ := vol_self hv
 have hvl : v.length ≤ 12 := by
  have := hv.name
  unfold nameB at this
  rw [Bool.and_eq_true] at this
  exact (of_decide_eq_true this.1).2
 have hpc := fun w => pcheck_c v 1 w Zo
 rw [v2] at hpc
 have hhas : D.has v = true := by
  rw [Dk.at_get] at hd
  rw [Dk.has_get]
  cases hg : D.get v with
  |none => rw [hg] at hd; cases hd
  |some x => rfl
 have hkd := kind_dir hhas hd
 have hdn := fun (w : World) (h : DkIs q mb lb D w) => ddown_c h
 rw [hu] at hdn
 clear v1 v2 v3
 repeat' (first | (show WL _ _ _ _ _ _ _; first | refine WL.pure rfl rfl rfl rfl ?_ | refine WL.nil ?_ | (refine WL.calls hS rfl rfl (hpc _) rfl rfl rfl ?_; rintro v' w rfl hS) | (refine WL.calls hS rfl rfl (hdn _ (hS.holds (dkC q mb lb D) (by repeat (first | exact Zh | apply List.Mem.tail))).1) rfl rfl rfl ?_; rintro v' w rfl hS) | (refine WL.calls hS rfl rfl (dkind_c v (hS.holds (dkC q mb lb D) (by repeat (first | exact Zh | apply List.Mem.tail))).1) rfl rfl rfl ?_; rintro v' w rfl hS; rw [hkd]) | (refine WL.mmakeP hS rfl rfl stampTy rfl rfl rfl ?_; intro w kb hS) | (refine WL.mmake (t := 227) hS rfl rfl rfl rfl rfl ?_; intro w fb hS) | (refine WL.mmake (t := 120) hS rfl rfl rfl rfl rfl ?_; intro w sb hS) | (refine WL.store hS rfl rfl rfl Sb rfl rfl rfl ?_; intro w hS) | (refine WL.alloc hS rfl rfl rfl rfl rfl rfl ?_; intro w b hS) | refine WL.build rfl rfl rfl rfl rfl ?_) | (show WC _ _ _ _ _ _; first | refine WC.seq ?_ | refine WC.region ?_ | refine WC.block ?_ | refine WC.skip ?_ | refine WC.condF rfl Zr ?_ | refine WC.condF rfl Zd ?_) | refine seqQ_n ?_)
 obtain ⟨wb, hwb⟩ : ∃ wb, wb = b := ⟨_, rfl⟩
 subst hwb
 clear hpc hdn
 replace hS := hS.droplast2 (D := [dkC q mb lb D, .box wb 229 [.pointer (some ⟨q, 0, none⟩), str v, .map (some kb), .map (some fb), .map (some sb), .int .i64 0], mapCP kb (mmapP encN (knownE (seen.take 0))), mapC fb (mmap encN []), mapC sb (mmap encI [])]) Pu
 refine WC.loop (σ := Nat) [1, 6, 7, 10, 33, 34] (fun k => [(35, .int .i64 (k : Int))])
  (fun k w => k ≤ seen.length ∧ St w0 (fps [dkC q mb lb D]) w [dkC q mb lb D, .box wb 229 [.pointer (some ⟨q, 0, none⟩), str v, .map (some kb), .map (some fb), .map (some sb), .int .i64 0], mapCP kb (mmapP encN (knownE (seen.take k))), mapC fb (mmap encN []), mapC sb (mmap encI [])] (ZL w0 [dkC q mb lb D]))
  (fun k => seen.length - k) 0 ⟨Nat.zero_le _, hS⟩ ⟨rfl, trivial⟩ ?_
 clear hS
 rintro k g w ⟨hk, hS⟩
 show WC _ _ _ (lf _ [(35, .int .i64 (k : Int))] _ _) _ _
 by_cases hlt : k < seen.length
 ·obtain ⟨rb, ro, es, rfl, hF, hrr, hes⟩ := hA.at_ hlt
  have hes : es = encSn seen[k] := hes
  subst hes
  have hrr : w0.rangeAt rb (ro + k * 4) (encSn seen[k]) := hrr
  have hks := known_snoc (seen.take k) seen[k]
  rw [← List.take_succ_eq_append_getElem hlt] at hks
  generalize seen[k] = x at *
  obtain ⟨xp, xs, xk, xd⟩ := x
  dsimp only at hks
  by_cases hx : xk = 2
  ·rw [if_pos hx] at hks
   repeat' (first | (show WL _ _ _ _ _ _ _; first | refine WL.pure rfl rfl rfl rfl ?_ | refine WL.nil ?_ | refine WL.load hS rfl rfl (LdOk.box (by repeat (first | exact Zh | apply List.Mem.tail)) rfl) rfl rfl rfl ?_ | refine WL.add rfl rfl rfl Zo rfl rfl rfl ?_ | (refine WL.load hS rfl rfl (LdOk.snap0 hF hrr (by repeat (first | exact Zh | apply List.Mem.tail)) rfl) rfl rfl rfl ?_) | (refine WL.msetP (s := (xp, xs)) (u := encN (xk, xd)) hS (.inl rfl) rfl stampTy rfl rfl rfl Rp rfl rfl ?_; clear hS; intro w hS; rw [mset_mapP, ← hks] at hS) | (refine WL.store hS rfl rfl rfl Sb rfl rfl rfl ?_; intro w hS) | (refine WL.alloc hS rfl rfl rfl rfl rfl rfl ?_; intro w b hS) | refine WL.index rfl rfl rfl rfl Zw rfl rfl rfl rfl ?_ | refine WL.build rfl rfl rfl rfl rfl ?_) | (show WC _ _ _ _ _ _; first | refine WC.seq ?_ | refine WC.region ?_ | refine WC.block ?_ | refine WC.skip ?_ | refine WC.condT rfl (decide_eq_true Zw) ?_) | refine seqQ_n ?_ | refine blkQ_n ?_)
   exact rndQ_n (k + 1) ⟨hlt, hS.droplast2 Pu⟩ (by show seen.length - (k + 1) < seen.length - k; omega) ⟨vint Zo, trivial⟩ ⟨rfl, rfl, rfl, rfl, rfl, rfl, trivial⟩
  ·rw [if_neg hx] at hks
   repeat' (first | (show WL _ _ _ _ _ _ _; first | refine WL.pure rfl rfl rfl rfl ?_ | refine WL.nil ?_ | refine WL.load hS rfl rfl (LdOk.box (by repeat (first | exact Zh | apply List.Mem.tail)) rfl) rfl rfl rfl ?_ | refine WL.add rfl rfl rfl Zo rfl rfl rfl ?_ | (refine WL.load hS rfl rfl (LdOk.snap0 hF hrr (by repeat (first | exact Zh | apply List.Mem.tail)) rfl) rfl rfl rfl ?_) | (refine WL.store hS rfl rfl rfl Sb rfl rfl rfl ?_; intro w hS) | (refine WL.alloc hS rfl rfl rfl rfl rfl rfl ?_; intro w b hS) | refine WL.index rfl rfl rfl rfl Zw rfl rfl rfl rfl ?_) | (show WC _ _ _ _ _ _; first | refine WC.seq ?_ | refine WC.region ?_ | refine WC.block ?_ | refine WC.skip ?_ | refine WC.condT rfl (decide_eq_true Zw) ?_ | refine WC.condF rfl (decide_eq_false Zw) ?_) | refine seqQ_n ?_ | refine blkQ_n ?_)
   exact rndQ_n (k + 1) ⟨hlt, by rw [hks]; exact hS.droplast2 Pu⟩ (by show seen.length - (k + 1) < seen.length - k; omega) ⟨vint Zo, trivial⟩ ⟨rfl, rfl, rfl, rfl, rfl, rfl, trivial⟩
 ·have e : k = seen.length := Zo
  subst e
  rw [List.take_length] at hS
  have hko := known_ok hse
  generalize knownE seen = K at *
  have hfo := folder_c (q := q) (mb := mb) (lb := lb) (wb := wb) (kb := kb) (fb := fb) (sb := sb) hw hu hB hn hv hko 6 v (.inl rfl) (by have := deep_ge hv.ne; omega)
  repeat' (first | (show WL _ _ _ _ _ _ _; first | refine WL.pure rfl rfl rfl rfl ?_ | refine WL.nil ?_ | refine WL.load hS rfl rfl (LdOk.box (by repeat (first | exact Zh | apply List.Mem.tail)) rfl) rfl rfl rfl ?_ | (refine WL.callL (D := [dkC q mb lb D, .box wb 229 [.pointer (some ⟨q, 0, none⟩), str v, .map (some kb), .map (some fb), .map (some sb), .int .i64 0], mapCP kb (mmapP encN K), mapC fb (mmap encN []), mapC sb (mmap encI [])]) hS Pu rfl rfl (fun hI => hfo _ _ _ _ hI) rfl rfl rfl ?_; rintro v' w ⟨rfl, F, S, r, hF, hm⟩ hS; replace hS := hS _ hm; clear hm)) | (show WC _ _ _ _ _ _; first | refine WC.seq ?_ | refine WC.region ?_ | refine WC.skip ?_ | refine WC.exit ?_ | refine WC.condF rfl Zd ?_ | refine WC.condF rfl (decide_eq_false Zw) ?_) | refine seqQ_n ?_ | refine seqQ_x ?_ | refine blkQ_hit rfl ?_ | refine rndQ_x ?_)
  have hnd : (F.map Prod.fst).Nodup := by
   have := (hS.holds (mapC fb (mmap encN F)) (by repeat (first | exact Zh | apply List.Mem.tail))).1.1
   rwa [show (mmap encN F).map Prod.fst = F.map Prod.fst by unfold mmap; rw [List.map_map]; rfl] at this
  have hks := found_keys hv.ne hF hnd hw.nd
  have hon : (ownsE D v).length ≤ 500000 := by
   unfold ownsE
   rw [sortL_len, List.length_map]
   unfold Dk.belows
   refine Nat.le_trans (List.length_filter_le _ _) ?_
   rw [List.length_map]; exact Nat.le_trans hB.len hn
  have hFl : F.length = (ownsE D v).length := by rw [← hks, keysE_len]
  have hkl : ∀ x ∈ F, x.1.length ≤ 1099511627776 := fun x hx => by
   have h1 : x.1 ∈ ownsE D v := by
    rw [← hks]
    exact (List.mergeSort_perm _ _).mem_iff.2 (List.mem_map_of_mem hx)
   obtain ⟨y, hy⟩ := Option.isSome_iff_exists.1 (mem_owns.1 h1)
   have h2 := hB.key _ (mget_mem hy)
   dsimp only at h2
   rw [List.length_append, List.length_cons] at h2
   omega
  have hsk : ∀ w0 x, w0.heap[x]? = some (.cells ⟨[.map (some fb)]⟩ keysNT (0, 0)) → MapIs fb (mmap encN F) w0 → Cal Tryz.prog 75 [.func (.func 198) ⟨[]⟩ ⟨[.pointer (some ⟨x, 0, none⟩)]⟩] w0 fun v' w' => Upd [] w0 w' ∧ ∃ A cap, v' = .slice A (ownsE D v).length cap ∧
    New w0 w' (.own (.slice A (ownsE D v).length cap) 9 1 (ownsE D v).length (strs (ownsE D v))) := fun w0 x hx hm => by
   have h := sortedN_c hx hm (by unfold mmap; rw [List.length_map]; omega) (fun p hp => by
    obtain ⟨y, hy, rfl⟩ := List.mem_map.1 hp
    exact hkl y hy)
   have e1 : (mmap encN F).map Prod.fst = F.map Prod.fst := by unfold mmap; rw [List.map_map]; rfl
   have e2 : (mmap encN F).length = (ownsE D v).length := by unfold mmap; rw [List.length_map]; exact hFl
   rw [e1, e2] at h
   rw [← hks] at h ⊢
   exact h
  have hlook : ∀ j (h : j < (ownsE D v).length), lookV (encN (0, [])) (mmap encN F) (ownsE D v)[j] false = encN (nodeD D v (ownsE D v)[j]) := fun j h => found_look hF (List.getElem_mem h)
  have hnow := now_is hF
  have hwk : walkE D v = (ownsE D v).map (entD D v) := rfl
  rw [hwk]
  clear hks hFl hkl hnd hF hfo hko hlt hk hwk
  generalize ownsE D v = ks at *
  repeat' (first | (show WL _ _ _ _ _ _ _; first | refine WL.pure rfl rfl rfl rfl ?_ | refine WL.nil ?_ | (refine WL.callG rfl rfl (mapsKeysN_n fb _) rfl rfl rfl ?_; rintro v' w ⟨x, rfl, hup, hnew⟩; have hS := hS.new hup hnew; clear hup hnew) | (refine WL.callG rfl rfl (hsk _ _ (hS.holds _ Zh) (hS.holds (mapC fb (mmap encN F)) (by repeat (first | exact Zh | apply List.Mem.tail))).1) rfl rfl rfl ?_; rintro v' w ⟨hup, AK, ck, rfl, hnew⟩; have hS := hS.new hup hnew; clear hup hnew)) | (show WC _ _ _ _ _ _; first | refine WC.block ?_) | refine seqQ_n ?_)
  clear hsk
  replace hS := (hS.nilRow 165 3).nilRow 231 4
  replace hS := hS.droplast2 (D := [eC none 0 [], snC none 0 [], dkC q mb lb D, .box wb 229 [.pointer (some ⟨q, 0, none⟩), str v, .map (some kb), .map (some fb), .map (some sb), .int .i64 r], mapC fb (mmap encN F), mapC sb (mmap encI S), .own (.slice AK ks.length ck) 9 1 ks.length (strs ks)]) Pu
  refine WC.loop (σ := Nat × List Ent × List Sn × Option Addr × Nat × Option Addr × Nat) [10, 61, 62] (fun (j, tl, nl, AT, ct, AN, cn) => [(6, .slice AT tl.length ct), (7, .slice AN nl.length cn), (63, .int .i64 (j : Int))])
   (fun (j, tl, nl, AT, ct, AN, cn) w => (j ≤ ks.length ∧ tl = (ks.take j).map (entD D v) ∧ nl = (ks.take j).map (snOf D v S) ∧ tl.length = j ∧ nl.length = j) ∧ St w0 (fps [dkC q mb lb D]) w [eC AT ct tl, snC AN cn nl, dkC q mb lb D, .box wb 229 [.pointer (some ⟨q, 0, none⟩), str v, .map (some kb), .map (some fb), .map (some sb), .int .i64 r], mapC fb (mmap encN F), mapC sb (mmap encI S), .own (.slice AK ks.length ck) 9 1 ks.length (strs ks)] (ZL w0 [dkC q mb lb D]))
   (fun (j, _) => ks.length - j) (0, [], [], none, 0, none, 0) ⟨⟨Nat.zero_le _, rfl, rfl, rfl, rfl⟩, hS⟩ ⟨rfl, rfl, rfl, trivial⟩ ?_
  clear hS
  rintro ⟨j, tl, nl, AT, ct, AN, cn⟩ g w ⟨⟨hj, ht, hn2, htl, hnl⟩, hS⟩
  show WC _ _ _ (lf _ [(6, .slice AT tl.length ct), (7, .slice AN nl.length cn), (63, .int .i64 (j : Int))] _ _) _ _
  by_cases hjl : j < ks.length
  ·obtain ⟨g2, o2, rfl⟩ := hS.own_addr (A := AK) (n := ks.length) (by repeat (first | exact Zh | apply List.Mem.tail)) Zo
   have hel : (strs ks)[j * 1]? = some (str ks[j]) := by rw [Nat.mul_one, strs_at hjl]
   have hlf := hlook j hjl
   have hls := stamp_look S ks[j]
   have ht2 : (ks.take (j + 1)).map (entD D v) = tl ++ [⟨ks[j], (nodeD D v ks[j]).1, (nodeD D v ks[j]).2⟩] := by rw [List.take_succ_eq_append_getElem hjl, List.map_append, ht]; rfl
   have hn3 : (ks.take (j + 1)).map (snOf D v S) = nl ++ [⟨ks[j], (mget S ks[j]).getD 0, (nodeD D v ks[j]).1, (nodeD D v ks[j]).2⟩] := by rw [List.take_succ_eq_append_getElem hjl, List.map_append, hn2]; rfl
   generalize ks[j] = p at *
   generalize nodeD D v p = nd at *
   generalize (mget S p).getD 0 = st at *
   obtain ⟨nk, nda⟩ := nd
   dsimp only at ht2 hn3
   repeat' (first | (show WL _ _ _ _ _ _ _; first | refine WL.pure rfl rfl rfl rfl ?_ | refine WL.nil ?_ | refine WL.load hS rfl rfl (LdOk.box (by repeat (first | exact Zh | apply List.Mem.tail)) rfl) rfl rfl rfl ?_ | refine WL.add rfl rfl rfl Zo rfl rfl rfl ?_ | (refine WL.load hS rfl rfl (LdOk.ownAt (by repeat (first | exact Zh | apply List.Mem.tail)) rfl ⟨_, rfl⟩ hel rfl) rfl rfl rfl ?_) | (refine WL.mget hS rfl rfl rfl rfl (.mk' (by repeat (first | exact Zh | apply List.Mem.tail))) hlf rfl rfl rfl ?_) | (refine WL.mget hS rfl rfl rfl rfl (.mk' (by repeat (first | exact Zh | apply List.Mem.tail))) hls rfl rfl rfl ?_) | (refine WL.slit (t := 84) hS rfl rfl rfl rfl rfl ?_; intro w eb hS) | (refine WL.slit (t := 178) hS rfl rfl rfl rfl rfl ?_; intro w nb hS) | (refine WL.app (n := tl.length) (size := 3) hS rfl rfl rfl rfl (RdOk.box (by repeat (first | exact Zh | apply List.Mem.tail))) rfl rfl (fun A cap => Rp) Zo rfl rfl rfl ?_; intro A3 cap3 w hS) | (refine WL.app (n := nl.length) (size := 4) hS rfl rfl rfl rfl (RdOk.box (by repeat (first | exact Zh | apply List.Mem.tail))) rfl rfl (fun A cap => Rp) Zo rfl rfl rfl ?_; intro A4 cap4 w hS) | refine WL.index rfl rfl rfl rfl Zw rfl rfl rfl rfl ?_ | refine WL.build rfl rfl rfl rfl rfl ?_) | (show WC _ _ _ _ _ _; first | refine WC.seq ?_ | refine WC.region ?_ | refine WC.block ?_ | refine WC.skip ?_ | refine WC.condT rfl (decide_eq_true Zw) ?_) | refine seqQ_n ?_ | refine blkQ_n ?_)
   replace hS := hS.droplast2 (D := [.own (.slice A3 (tl.length + 1) cap3) 165 3 (tl.length + 1) (tl.flatMap encEnt ++ encEnt ⟨p, nk, nda⟩), .own (.slice A4 (nl.length + 1) cap4) 231 4 (nl.length + 1) (nl.flatMap encSn ++ encSn ⟨p, st, nk, nda⟩), dkC q mb lb D, .box wb 229 [.pointer (some ⟨q, 0, none⟩), str v, .map (some kb), .map (some fb), .map (some sb), .int .i64 r], mapC fb (mmap encN F), mapC sb (mmap encI S), .own (.slice (some ⟨g2, o2, none⟩) ks.length ck) 9 1 ks.length (strs ks)]) Pu
   rw [eC_snoc, snC_snoc] at hS
   exact rndQ_n (j + 1, tl ++ [⟨p, nk, nda⟩], nl ++ [⟨p, st, nk, nda⟩], A3, cap3, A4, cap4) ⟨⟨hjl, ht2.symm, hn3.symm, by simp [htl], by simp [hnl]⟩, hS⟩ (by show ks.length - (j + 1) < ks.length - j; omega) ⟨by rw [List.length_append]; rfl, by rw [List.length_append]; rfl, vint Zo, trivial⟩ ⟨rfl, rfl, rfl, trivial⟩
  ·have e : j = ks.length := Zo
   subst e
   rw [List.take_length] at ht hn2
   subst ht hn2
   repeat' (first | (show WL _ _ _ _ _ _ _; first | refine WL.pure rfl rfl rfl rfl ?_ | refine WL.nil ?_) | (show WC _ _ _ _ _ _; first | refine WC.seq ?_ | refine WC.region ?_ | refine WC.exit ?_ | refine WC.ret ?_ | (show WC _ _ (Code.region _ (List.toArray [_, _, _, _, _, _, _, _]) true) _ _ _; refine WC.drawS hS [0, 1, 2, 3, 4, 5, 6, 7] [0, 1, 2, 3, 4, 5, 6, 7] Zk Zk ?_; clear hS; intro w hS hM) | refine WC.condF rfl (decide_eq_false Zw) ?_) | (show WD _ _ _ _ _ _ _ _ _; first | refine WD.pure rfl rfl rfl rfl rfl ?_ | refine WD.nil ?_ | refine WD.load rfl rfl (LdOk.box (by repeat (first | exact Zh | apply List.Mem.tail)) rfl) rfl rfl rfl rfl ?_) | refine seqQ_n ?_ | refine seqQ_x ?_ | refine blkQ_hit rfl ?_ | refine rndQ_x ?_)
   exact fin4r rfl rfl rfl rfl rfl ⟨AT, ct, AN, cn, _, r, hnow, rfl, hS.mutLp Pu⟩
theorem SlAt.nil0 {α : Type} {c : Cod α} {F : Nat → Prop} {w : World} : SlAt c F w none ([] : List α) := fun i hi => absurd hi (Nat.not_lt_zero _)
theorem swalk_c {q mb lb n : Nat} {D : Dk} {v : List UInt8} {w0 : World} (hI : InL w0 [dkC q mb lb D]) (hw : DkW D) (hu : D.down = false) (hB : DkB n D) (hn : n ≤ 500000) (hv : VolOk v) (hd : (D.at v).dir = true) :
  Cal Tryz.prog 52 [.pointer (some ⟨q, 0, none⟩), str v] w0
   (fun v' w' => ∃ AT ct, v' = .tuple #[.slice AT (walkE D v).length ct, .int .i64 0] ∧ MutL w0 w' [dkC q mb lb D] [dkC q mb lb D, eC AT ct (walkE D v)]) := by
 refine Cal.mkL hI Zk Tryz.func52 rfl rfl fun hS => ?_
 repeat' (first | (show WL _ _ _ _ _ _ _; first | refine WL.pure rfl rfl rfl rfl ?_ | refine WL.nil ?_ | (refine WL.callL (D := [dkC q mb lb D]) hS Pu rfl rfl (fun hI => scan_c (seen := []) (cap := 0) hI SlAt.nil0 (Nat.zero_le _) (fun s hs => by cases hs) hw hu hB hn hv hd) rfl rfl rfl ?_; rintro v' w ⟨AT, ct, AN, cn, nl, r, _, rfl, hm⟩ hS; replace hS := hS _ hm; clear hm)) | (show WC _ _ _ _ _ _; first | refine WC.seq ?_ | refine WC.region ?_ | refine WC.ret ?_) | refine seqQ_n ?_)
 exact fin2r rfl rfl rfl ⟨AT, ct, rfl, hS.mutLp Pu⟩
open Go Go.J Go.RowKit
abbrev hubP : List UInt8 := [104, 117, 98]
abbrev s1P : List UInt8 := [115, 49]
theorem root0 : rootE 0 = hubP := rfl
theorem root1 : rootE 1 = s1P := by decide +kernel
def Dv3 : Dk := (((Dk0.mkdir sysP).2.mkdir hubP).2.mkdir s1P).2
theorem Dv3_eq : Dk0.mkdir sysP = (0, (Dk0.mkdir sysP).2) ∧ (Dk0.mkdir sysP).2.mkdir hubP = (0, ((Dk0.mkdir sysP).2.mkdir hubP).2) ∧ ((Dk0.mkdir sysP).2.mkdir hubP).2.mkdir s1P = (0, Dv3) := ⟨Zk, Zk, Zk⟩
theorem Dv3_items : Dv3.items = [(sysP, { It0 with dir := true }), (hubP, { It0 with dir := true }), (s1P, { It0 with dir := true })] := Zk
theorem Dv3_get (y : List UInt8) : Dv3.get y = if y = sysP then some { It0 with dir := true } else if y = hubP then some { It0 with dir := true } else if y = s1P then some { It0 with dir := true } else none := by
 unfold Dk.get
 rw [Dv3_items]
 rfl
theorem Dv3_has {y : List UInt8} (h : Dv3.has y = true) : y = sysP ∨ y = hubP ∨ y = s1P := by
 rw [Dk.has_get, Dv3_get] at h
 by_cases h1 : y = sysP
 ·exact .inl h1
 ·rw [if_neg h1] at h
  by_cases h2 : y = hubP
  ·exact .inr (.inl h2)
  ·rw [if_neg h2] at h
   by_cases h3 : y = s1P
   ·exact .inr (.inr h3)
   ·rw [if_neg h3] at h; cases h
theorem Dv3_q : Quiet Dv3 := by
 refine ⟨⟨Zk, by rw [Dv3_items]; decide, Zk, Zk, Zk, fun p hp => ?_, fun p hp => ?_, fun p hp => ?_⟩, Zk, by decide +kernel⟩
 ·rcases Dv3_has hp with rfl | rfl | rfl <;> kernel_rfl
 ·rcases Dv3_has hp with rfl | rfl | rfl <;> kernel_rfl
 ·rcases hp with rfl | rfl | rfl | rfl <;> kernel_rfl
theorem Dv3_firm : Firm Dv3 := fun p x _ _ h => by
 rw [Dv3_get] at h
 have : x = { It0 with dir := true } := by
  split at h
  ·exact (Option.some.inj h).symm
  ·split at h
   ·exact (Option.some.inj h).symm
   ·split at h
    ·exact (Option.some.inj h).symm
    ·cases h
 rw [this]
 exact ⟨rfl, rfl, fun _ => rfl⟩
theorem Dv3_bel (v : List UInt8) : ∀ y, Dv3.has y = true → belB v y = false := fun y hy => by
 cases hb : belB v y with
 |false => rfl
 |true =>
  obtain ⟨q, rfl⟩ := bel_iff.1 hb
  have h47 : (47 : UInt8) ∈ v ++ 47 :: q := by simp
  rcases Dv3_has hy with h | h | h <;> (rw [h] at h47; exact absurd h47 Zd)
theorem Dv3_s : DkS 3 Dv3 := by
 have hi := Dv3_items
 refine ⟨⟨Zk, by rw [hi]; decide, by rw [hi]; decide, fun x hx => ?_, fun y => ?_⟩, fun x hx => ?_⟩
 ·rw [hi] at hx
  simp only [List.mem_cons, List.not_mem_nil, or_false] at hx
  rcases hx with rfl | rfl | rfl <;> decide
 ·rw [Dk.at_get, Dv3_get]
  repeat' split
  all_goals exact Nat.zero_le _
 ·rw [hi] at hx
  simp only [List.mem_cons, List.not_mem_nil, or_false] at hx
  rcases hx with rfl | rfl | rfl <;> exact ⟨Nat.zero_le _, Nat.zero_le _, fun _ _ => Nat.le_refl _⟩
structure LaidD (D : Dk) (hub side : List Ent) : Prop where
 q : Quiet D
 firm : Firm D
 nh : ∀ q, nodeD D hubP q = nodeT hub q
 ns : ∀ q, nodeD D s1P q = nodeT side q
 dh : (D.at hubP).dir = true
 ds : (D.at s1P).dir = true
 s : DkS (3 + 2 * hub.length + 2 * side.length) D
theorem hub_vol : VolOk hubP := ⟨by decide +kernel, Zd⟩
theorem s1_vol : VolOk s1P := ⟨by decide +kernel, Zd⟩
theorem tree_small {t : List Ent} (h : TreeOk t) {x : Ent} (hx : x ∈ t) : x.path.length ≤ 65 ∧ x.data.length ≤ 4096 := by
 obtain ⟨i, hi, rfl⟩ := List.getElem_of_mem hx
 have h1 := (h i hi).path
 have h2 := (h i hi).whole
 refine ⟨?_, ?_⟩
 ·obtain ⟨c1, c2⟩ := (checkE_iff _ 5).1 h1
  have key : ∀ (s one : List UInt8), ((splitA one s).all nameB = true) → one.length + s.length ≤ 13 * (splitA one s).length := by
   intro s
   induction s with
   |nil =>
    intro one ha
    have : nameB one = true := by simpa [splitA] using ha
    unfold nameB at this
    rw [Bool.and_eq_true] at this
    have := of_decide_eq_true this.1
    simp [splitA]; omega
   |cons c s ih =>
    intro one ha
    unfold splitA at ha ⊢
    split at ha
    ·rename_i hc
     rw [if_pos hc]
     rw [List.all_cons, Bool.and_eq_true] at ha
     have h3 := ih [] ha.2
     have h4 := ha.1
     unfold nameB at h4
     rw [Bool.and_eq_true] at h4
     have := of_decide_eq_true h4.1
     simp only [List.length_cons, List.length_nil] at *
     omega
    ·rename_i hc
     rw [if_neg hc]
     have h3 := ih _ ha
     simp only [List.length_append, List.length_cons, List.length_nil] at *
     omega
  have := key t[i].path [] c2
  have : (splitA [] t[i].path).length ≤ 5 := by have h : ((splitL t[i].path).length : Int) ≤ 5 := c1; unfold splitL at h; omega
  simp only [List.length_nil] at *
  omega
 ·unfold wholeE at h2
  split at h2
  ·rw [of_decide_eq_true h2]; exact Nat.zero_le _
  ·split at h2
   ·exact of_decide_eq_true h2
   ·cases h2
section
variable {hub side h s : List Ent} {D : Dk}
theorem laid_two (hh : TreeOk hub) (hs : TreeOk side) : (layT Dv3 hubP hub).1 = 0 ∧ (layT (layT Dv3 hubP hub).2 s1P side).1 = 0 ∧ LaidD (layT (layT Dv3 hubP hub).2 s1P side).2 hub side ∧ DkS (3 + 2 * hub.length) (layT Dv3 hubP hub).2 ∧ Quiet (layT Dv3 hubP hub).2 ∧ ((layT Dv3 hubP hub).2.at s1P).dir = true ∧ walkE (layT Dv3 hubP hub).2 s1P = [] := by
 have h1 := layT_ok (v := hubP) hub_vol Dv3_q Zk (Dv3_bel _) hh
 have sb1 : DkS (3 + 2 * hub.length) (layT Dv3 hubP hub).2 := DkS.layFold (s := (0, Dv3)) Dv3_s fun x hx => by
  have := tree_small hh hx
  show 3 + x.path.length ≤ _ ∧ _
  omega
 generalize layT Dv3 hubP hub = r1 at *
 obtain ⟨e1, D1⟩ := r1
 have q1 : Quiet D1 := h1.q
 have nb : ∀ (v u : List UInt8), (47 : UInt8) ∉ u → belB v u = false := fun v u hu => by
  cases hb : belB v u with
  |false => rfl
  |true =>
   obtain ⟨q, rfl⟩ := bel_iff.1 hb
   exact absurd (by simp) hu
 have ds1 : (D1.at s1P).dir = true := by
  rw [Dk.at_get, show D1.get s1P = Dv3.get s1P from h1.other _ (nb _ _ Zd)]
  kernel_rfl
 have hne : ∀ q, belB hubP (s1P ++ 47 :: q) = false := fun q => by
  cases hb : belB hubP (s1P ++ 47 :: q) with
  |false => rfl
  |true =>
   obtain ⟨r, hr⟩ := bel_iff.1 hb
   exact absurd (split47 Zd Zd hr).1 Zd
 have empty : ∀ y, D1.has y = true → belB s1P y = false := fun y hy => by
  cases hb : belB s1P y with
  |false => rfl
  |true =>
   obtain ⟨q, rfl⟩ := bel_iff.1 hb
   have : D1.get (s1P ++ 47 :: q) = Dv3.get (s1P ++ 47 :: q) := h1.other _ (hne q)
   rw [Dk.has_get, this, ← Dk.has_get] at hy
   rw [Dv3_bel _ _ hy] at hb; cases hb
 have h2 := layT_ok (v := s1P) s1_vol q1 ds1 empty hs
 have sb2 : DkS (3 + 2 * hub.length + 2 * side.length) (layT D1 s1P side).2 := DkS.layFold (s := (0, D1)) sb1 fun x hx => by
  have := tree_small hs hx
  show 2 + x.path.length ≤ _ ∧ _
  omega
 refine ⟨h1.ok, h2.ok, ⟨h2.q, h2.firm (h1.firm Dv3_firm), fun q => ?_, h2.node, ?_, ?_, sb2⟩, sb1, q1, ds1, ?_⟩
 ·have hb : belB s1P (hubP ++ 47 :: q) = false := by
   cases hb : belB s1P (hubP ++ 47 :: q) with
   |false => rfl
   |true =>
    obtain ⟨r, hr⟩ := bel_iff.1 hb
    exact absurd (split47 Zd Zd hr).1 Zd
  have := h2.other _ hb
  unfold nodeD
  rw [this]
  exact h1.node q
 ·rw [Dk.at_get, h2.other _ (nb _ _ Zd), show D1.get hubP = Dv3.get hubP from h1.other _ (nb _ _ Zd)]
  kernel_rfl
 ·rw [Dk.at_get, h2.other _ (nb _ _ Zd), ← Dk.at_get]; exact ds1
 ·refine walk_eq q1.w.nd List.Pairwise.nil (fun e he => by cases he) fun q => ?_
  rw [nodeT_no fun e he => by cases he]
  unfold nodeD
  have : D1.get (s1P ++ 47 :: q) = none := by
   cases hg : D1.get (s1P ++ 47 :: q) with
   |none => rfl
   |some x =>
    have := empty _ (has_of_get hg)
    rw [bel_app] at this; cases this
  rw [this]; rfl
theorem walk_none (v : List UInt8) (h : ∀ y, D.has y = true → belB v y = false) : walkE D v = [] := by
 cases hw : walkE D v with
 |nil => rfl
 |cons x l =>
  have := (mem_walk (e := x) (D := D) (v := v)).1 (by rw [hw]; exact List.mem_cons_self ..)
  have := h _ this.1
  rw [bel_app] at this; cases this
theorem LaidD.two (h0 : LaidD D hub side) (h1 : TreeOk hub) (h2 : TreeOk side) (h3 : TreeOk h) (h4 : TreeOk s) : Two D 0 1 hub side h s :=
 ⟨h0.q.w, Zd, Zd, Zd, by rw [root0]; exact h0.dh, by rw [root1]; exact h0.ds, h1, h2, h3, h4, fun q => by rw [root0]; exact h0.nh q, fun q => by rw [root1]; exact h0.ns q⟩
theorem Two.arm {r1 r2 : Int} {o1 o2 n1 n2 : List Ent} (h : Two D r1 r2 o1 o2 n1 n2) (a : Int) : Two (D.arm a) r1 r2 o1 o2 n1 n2 :=
 ⟨h.w.same rfl rfl, h.q1, h.q2, h.ne, h.d1, h.d2, h.t1, h.t2, h.u1, h.u2, h.h1, h.h2⟩
theorem Betw.dirs {D0 : Dk} {F : List Fs} (hb : Betw D0 F D) {v : List UInt8} (h1 : v ≠ stgP) (h2 : ¬ sysF v) (hn : newN D0 F v = ndE (D0.get v)) (hd : (D0.at v).dir = true) : (D.at v).dir = true := by
 have hk := dir_kind.1 hd
 rw [dir_kind]
 rcases hb.node v h1 h2 with h | h | h
 ·rw [h]; exact hk
 ·rw [h, hn]; exact hk
 ·exact absurd (by rw [hn]) h.2
theorem vol_nst {v : List UInt8} (hv : VolOk v) : v ≠ stgP ∧ ¬ sysF v := by
 have h := hv.no47
 refine ⟨fun e => h (by rw [e]; decide), ?_⟩
 rintro (e | e | e | e) <;> exact h (by rw [e]; decide)
theorem Two.dir1 {r1 r2 : Int} {o1 o2 n1 n2 : List Ent} {D' : Dk} (h : Two D r1 r2 o1 o2 n1 n2) (hb : Betw D (twoF r1 r2 o1 o2 n1 n2) D') : (D'.at (rootE r1)).dir = true := by
 obtain ⟨m1, m2⟩ := vol_nst (root_vol h.q1)
 exact hb.dirs m1 m2 (h.newO (bel_root h.q1 _ h.q1) (bel_root h.q2 _ h.q1)) h.d1
theorem Two.dir2 {r1 r2 : Int} {o1 o2 n1 n2 : List Ent} {D' : Dk} (h : Two D r1 r2 o1 o2 n1 n2) (hb : Betw D (twoF r1 r2 o1 o2 n1 n2) D') : (D'.at (rootE r2)).dir = true := by
 obtain ⟨m1, m2⟩ := vol_nst (root_vol h.q2)
 exact hb.dirs m1 m2 (h.newO (bel_root h.q1 _ h.q2) (bel_root h.q2 _ h.q2)) h.d2
theorem Two.node1 {r1 r2 : Int} {o1 o2 n1 n2 : List Ent} {D' : Dk} (h : Two D r1 r2 o1 o2 n1 n2) (hb : Betw D (twoF r1 r2 o1 o2 n1 n2) D') (q : List UInt8) :
  nodeD D' (rootE r1) q = nodeT o1 q ∨ nodeD D' (rootE r1) q = nodeT n1 q ∨ (nodeD D' (rootE r1) q = (0, []) ∧ (nodeT o1 q).1 ≠ (nodeT n1 q).1) := by
 obtain ⟨_, m2, m3⟩ := vol_nsys (q := q) (root_vol h.q1)
 rcases hb.node _ m2 m3 with e | e | e
 ·exact .inl (e.trans (h.h1 q))
 ·exact .inr (.inl (e.trans (h.new1 q)))
 ·have h1 : ndE (D.get (rootE r1 ++ 47 :: q)) = nodeT o1 q := h.h1 q
  rw [h.new1, h1] at e
  exact .inr (.inr e)
theorem Two.sizes {r1 r2 : Int} {o1 o2 n1 n2 : List Ent} (h : Two D r1 r2 o1 o2 n1 n2) : ∀ f ∈ twoF r1 r2 o1 o2 n1 n2, f.p.length ≤ 1099511627 ∧ f.data.length ≤ 1000000000 := fun f hf => by
 obtain ⟨a, ha, rfl⟩ := List.mem_map.1 hf
 have hp := h.pathOk ha
 have hl : a.path.length ≤ 65 := by
  have key := tree_small (t := [⟨a.path, 1, []⟩]) (x := ⟨a.path, 1, []⟩)
  rcases h.final ha with ⟨_, e⟩ | ⟨_, e⟩
  ·rcases getT_cases n1 a.path with ⟨x, hx, hxp, _⟩ | ⟨hno, _⟩
   ·rw [← hxp]; exact (tree_small h.u1 hx).1
   ·rcases getT_cases o1 a.path with ⟨x, hx, hxp, _⟩ | ⟨hno2, _⟩
    ·rw [← hxp]; exact (tree_small h.t1 hx).1
    ·exact absurd ((nodeT_no hno2).trans (nodeT_no hno).symm) e
  ·rcases getT_cases n2 a.path with ⟨x, hx, hxp, _⟩ | ⟨hno, _⟩
   ·rw [← hxp]; exact (tree_small h.u2 hx).1
   ·rcases getT_cases o2 a.path with ⟨x, hx, hxp, _⟩ | ⟨hno2, _⟩
    ·rw [← hxp]; exact (tree_small h.t2 hx).1
    ·exact absurd ((nodeT_no hno2).trans (nodeT_no hno).symm) e
 have hr : (rootE a.root).length ≤ 3 := by
  unfold rootE
  split
  ·decide
  ·split <;> simp
 refine ⟨?_, ?_⟩
 ·show (rootE a.root ++ 47 :: a.path).length ≤ _
  rw [List.length_append, List.length_cons]; omega
 ·show a.data.length ≤ _
  rcases h.final ha with ⟨e, _⟩ | ⟨e, _⟩
  ·rw [e]; exact Nat.le_trans (tree_whole h.u1 _).2.2 Zd
  ·rw [e]; exact Nat.le_trans (tree_whole h.u2 _).2.2 Zd
theorem act_len (root : Int) (old now : List Ent) : (actE root old now).length ≤ old.length + now.length := by
 unfold actE remA putA
 rw [List.length_append, List.length_map, List.length_map]
 have h1 := List.length_filter_le (fun x : Ent => decide ((getT now x.path).kind ≠ x.kind)) old.reverse
 have h2 := List.length_filter_le (fun x : Ent => decide (nodeT old x.path ≠ (x.kind, x.data))) now
 rw [List.length_reverse] at h1
 omega
theorem twoF_len (r1 r2 : Int) (o1 o2 n1 n2 : List Ent) : (twoF r1 r2 o1 o2 n1 n2).length ≤ o1.length + o2.length + n1.length + n2.length := by
 unfold twoF twoA
 rw [List.length_map]
 have h0 := final_len (actE r1 o1 n1 ++ actE r2 o2 n2)
 rw [List.length_append] at h0
 have h1 := act_len r1 o1 n1
 have h2 := act_len r2 o2 n2
 omega
end
open Go Go.J Go.RowKit
theorem aprec_ret {rb : Nat} {e0 : Int} {w0 : World} (hI : InL w0 [.box rb 30 [.int .i64 e0]]) : CallsD Tryz.prog 110 #[.pointer (some ⟨rb, 0, none⟩)] .returning w0 (fun e u' w' => u' = .returning ∧ (∃ x, e = .returned x) ∧ MutL w0 w' [.box rb 30 [.int .i64 e0]] [.box rb 30 [.int .i64 e0]]) := by
 refine CallsD.mono (callsD_rec (args := [.pointer (some ⟨rb, 0, none⟩)]) (R := fun _ w' => MutL w0 w' [.box rb 30 [.int .i64 e0]] [.box rb 30 [.int .i64 e0]]) Tryz.func110 rfl rfl rfl rfl rfl rfl (.inl ⟨rfl, rfl, rfl⟩) ?_) ?_
 ·have hS := St.initL hI
  repeat' (first | (show WL _ _ _ _ _ _ _; first | refine WL.pure rfl rfl rfl rfl ?_ | refine WL.nil ?_ | (refine WL.neNil0 rfl rfl rfl rfl rfl rfl ?_)) | (show WC _ _ _ _ _ _; first | refine WC.seq ?_ | refine WC.region ?_ | refine WC.skip ?_ | refine WC.condF rfl Zr ?_) | refine seqQ_n ?_)
  exact fin0n rfl (hS.mutLp Pu)
 ·rintro e u' w' ⟨rfl, v, rfl, h⟩
  exact ⟨rfl, ⟨_, rfl⟩, h⟩
theorem aprec_pan {rb : Nat} {e0 e : Int} {w0 : World} (hI : InL w0 [.box rb 30 [.int .i64 e0]]) : CallsD Tryz.prog 110 #[.pointer (some ⟨rb, 0, none⟩)] (.panicking (haltE e)) w0 (fun en u' w' => u' = .panicking [⟨.iface 220 (.agg ⟨[.int .i64 e]⟩), true, false⟩] ∧ (∃ x, en = .returned x) ∧ MutL w0 w' [.box rb 30 [.int .i64 e0]] [.box rb 30 [.int .i64 e]]) := by
 refine CallsD.mono (callsD_rec (args := [.pointer (some ⟨rb, 0, none⟩)]) (R := fun _ w' => MutL w0 w' [.box rb 30 [.int .i64 e0]] [.box rb 30 [.int .i64 e]]) Tryz.func110 rfl rfl rfl rfl rfl rfl (.inr ⟨rfl, rfl⟩) ?_) ?_
 ·have hS := St.initL hI
  repeat' (first | (show WL _ _ _ _ _ _ _; first | refine WL.pure rfl rfl rfl rfl ?_ | refine WL.nil ?_ | (refine WL.neNil1 rfl rfl rfl rfl rfl rfl ?_) | (refine WL.calls hS rfl rfl (caught_c e _) rfl rfl rfl ?_; rintro v w rfl hS) | (refine WL.store hS rfl rfl rfl Sb rfl rfl rfl ?_; intro w hS)) | (show WC _ _ _ _ _ _; first | refine WC.seq ?_ | refine WC.region ?_ | refine WC.condT rfl Zr ?_) | refine seqQ_n ?_)
  exact fin0n rfl (hS.mutLp Pu)
 ·rintro en u' w' ⟨rfl, v, rfl, h⟩
  exact ⟨rfl, ⟨_, rfl⟩, h⟩
open Go Go.J Go.RowKit
theorem lay1_ok {v : List UInt8} {E : Dk} {x : Ent} (h : (lay1 v (0, E) x).1 = 0) : (x.kind = 1 → (E.mkdir (v ++ 47 :: x.path)).1 = 0 ∧ (lay1 v (0, E) x).2 = (E.mkdir (v ++ 47 :: x.path)).2) ∧
  (x.kind ≠ 1 → (E.write (v ++ 47 :: x.path) x.data).1 = 0 ∧ ((E.write (v ++ 47 :: x.path) x.data).2.sync (v ++ 47 :: x.path)).1 = 0 ∧ (lay1 v (0, E) x).2 = ((E.write (v ++ 47 :: x.path) x.data).2.sync (v ++ 47 :: x.path)).2) := by
 have e : lay1 v (0, E) x = if x.kind = 1 then E.mkdir (v ++ 47 :: x.path) else if (E.write (v ++ 47 :: x.path) x.data).1 ≠ 0 then E.write (v ++ 47 :: x.path) x.data else (E.write (v ++ 47 :: x.path) x.data).2.sync (v ++ 47 :: x.path) := by
  unfold lay1
  rw [if_neg (fun hh => hh rfl)]
 rw [e] at h ⊢
 refine ⟨fun hk => ?_, fun hk => ?_⟩
 ·rw [if_pos hk] at h ⊢
  exact ⟨h, rfl⟩
 ·rw [if_neg hk] at h ⊢
  by_cases hw : (E.write (v ++ 47 :: x.path) x.data).1 = 0
  ·rw [if_neg (fun hh => hh hw)] at h ⊢
   exact ⟨hw, h, rfl⟩
  ·rw [if_pos hw] at h
   exact absurd h hw
theorem sl_res {w w0 : World} {M : List Nat} {H : List Chunk} {Z : List Snap} {rb : Nat} {tmps : Array Value} (hS : St w0 M w (.box rb 30 [.int .i64 0] :: H) Z) (ht : tmps.getD 6 undef = .pointer (some ⟨rb, 0, none⟩)) : (results Tryz.f109 tmps).run Tryz.prog w = .ok (.int .i64 0) w := by
 have h2 := hS.loads (P := Tryz.prog) (ty := 30) (a := ⟨rb, 0, none⟩) (v := .int .i64 0) (LdOk.box (.head _) rfl)
 have h3 : Tryz.f109.results = #[.cell 6 30] := rfl
 simp only [Array.getD_eq_getD_getElem?] at ht
 simp [results, h3, ht, h2, asAddr, Sem.run_bind]
theorem slay_c {q mb lb n : Nat} {D : Dk} {v : List UInt8} {A : Option Addr} {cap : Nat} (t : List Ent) {w0 : World} (hI : InL w0 [dkC q mb lb D]) (hA : SlAt cEnt (fun b => b < w0.heap.size ∧ b ∉ fps [dkC q mb lb D]) w0 A t) (hl : t.length ≤ 10000) (ht : TreeOk t)
  (hq : Quiet D) (hB : DkS n D) (hn : n ≤ 100000) (hv : VolOk v) (hd : (D.at v).dir = true) (he : walkE D v = []) :
  Cal Tryz.prog 109 [.pointer (some ⟨q, 0, none⟩), str v, .slice A t.length cap] w0 (fun v' w' => v' = .int .i64 0 ∧ MutL w0 w' [dkC q mb lb D] [dkC q mb lb (layT D v t).2]) := by
 have hvl : v.length ≤ 12 := by
  have := hv.name
  unfold nameB at this
  rw [Bool.and_eq_true] at this
  exact (of_decide_eq_true this.1).2
 have hempty : ∀ y, D.has y = true → belB v y = false := fun y hy => by
  cases hb : belB v y with
  |false => rfl
  |true =>
   obtain ⟨p, rfl⟩ := bel_iff.1 hb
   have := mem_walk (e := entD D v p) |>.2 ⟨hy, rfl⟩
   rw [he] at this; cases this
 have h0 : LaidTo D v (t.take 0) (0, D) := by
  refine ⟨rfl, hq, fun p => ?_, fun _ _ => rfl, id⟩
  rw [List.take_zero, nodeT_no fun e he => by cases he]
  unfold nodeD
  have : D.get (v ++ 47 :: p) = none := by
   cases hg : D.get (v ++ 47 :: p) with
   |none => rfl
   |some x =>
    have := hempty _ (has_of_get hg)
    rw [bel_app] at this; cases this
  show ndE (D.get (v ++ 47 :: p)) = _
  rw [this]; rfl
 have hto := fun k (hk : k ≤ t.length) => lay_to hv hd ht k hk h0
 have hsz := fun (x : Ent) (hx : x ∈ t) => tree_small ht hx
 have hst := fun k => DkS.layFold (v := v) (t := t.take k) (s := (0, D)) hB fun x hx => by
  have := hsz x (List.mem_of_mem_take hx)
  omega
 have hwk := fun (w : World) (hI : InL w [dkC q mb lb D]) => swalk_c (n := n) hI hq.w hq.up hB.b Zo hv hd
 rw [he] at hwk
 refine ⟨Zk, callsR (args := [.pointer (some ⟨q, 0, none⟩), str v, .slice A t.length cap]) Tryz.func109 rfl rfl ?_⟩
 have hS := St.initL hI
 refine WR.seq (Q0 := noQ) rfl noQ_ok ?_
 repeat' (first | (show WL _ _ _ _ _ _ _; first | refine WL.nil ?_ | (refine WL.box (t := 23) hS rfl rfl rfl rfl rfl ?_; intro w pb hS) | (refine WL.box (t := 9) hS rfl rfl rfl rfl rfl ?_; intro w vb hS) | (refine WL.box (t := 84) hS rfl rfl rfl rfl rfl ?_; intro w tb hS) | (refine WL.alloc (t := 30) hS rfl rfl rfl rfl rfl rfl ?_; intro w rb hS)) | (show WC _ _ _ _ _ _; first | refine WC.region ?_) | fail)
 show WR _ _ _ _ _ _
 refine WR.seq (Q0 := endQ0 _ _ _ [] [] _) rfl (endQ0_ok rfl) ?_
 repeat' (first | (show WL _ _ _ _ _ _ _; first | refine WL.pure rfl rfl rfl rfl ?_ | refine WL.nil ?_ | refine WL.load hS rfl rfl (LdOk.box (by repeat (first | exact Zh | apply List.Mem.tail)) rfl) rfl rfl rfl ?_ | (refine WL.callL (D := [dkC q mb lb D]) hS Pu rfl rfl (fun hI => hwk _ hI) rfl rfl rfl ?_; rintro v' w ⟨AO, co, rfl, hm⟩ hS; replace hS := hS _ hm; clear hm)) | (show WC _ _ _ _ _ _; first | refine WC.region ?_) | fail)
 show WR _ _ _ _ _ _
 refine WR.seq (Q0 := endQ0 _ _ _ [] [] _) rfl (endQ0_ok rfl) ?_
 repeat' (first | (show WL _ _ _ _ _ _ _; first | refine WL.pure rfl rfl rfl rfl ?_ | refine WL.nil ?_) | (show WC _ _ _ _ _ _; first | refine WC.seq ?_ | refine WC.region ?_ | refine WC.skip ?_ | refine WC.condF rfl Zd ?_) | refine seqQ_n ?_)
 show WR _ _ _ _ _ _
 refine WR.range rfl ?_
 repeat' (first | (show WL _ _ _ _ _ _ _; first | refine WL.pure rfl rfl rfl rfl ?_ | refine WL.nil ?_ | (refine WL.callL (D := []) hS Pu rfl rfl (fun hI => backE_c AO 0 co _) rfl rfl rfl ?_; rintro v' w ⟨sb, rfl, hm⟩ hS; replace hS := hS _ hm; clear hm)) | (show WC _ _ _ _ _ _; first | refine WC.region ?_) | fail)
 refine rangeAt_of (gf := 188) (cap := ⟨[.pointer (some ⟨sb, 0, none⟩)]⟩) hS rfl Zk fun db fn F0 tm w2 RC hfn htn htf hRC hS => ?_
 refine Calls.mono (backInE_c (b := sb) (A := AO) (cap := co) (t := []) (I := fun _ w => St w0 (fps [dkC q mb lb D]) w [ocC (db + 1) (RC .ready none), ocC db (.deferred (some [])), .box sb 84 [.slice AO 0 co], dkC q mb lb D, .box rb 30 [.int .i64 0], .box tb 84 [.slice A t.length cap], .box vb 9 [str v], .box pb 23 [.pointer (some ⟨q, 0, none⟩)]] [⟨w0, fun b => b < w0.heap.size ∧ b ∉ fps [dkC q mb lb D]⟩]) (X := fun _ => False) (S := fun _ _ => False) Zd ?_ ?_ ?_ ?_) ?_
 ·rintro k w hS
  exact hS.holds (.box sb 84 [.slice AO 0 co]) (by simp)
 ·rintro k w hS
  exact fun i hi => absurd hi (Nat.not_lt_zero _)
 ·exact fun k hk => absurd hk (Nat.not_lt_zero _)
 ·exact hS.droplast2 Pu
 ·rintro e w hcall
  rcases hcall with ⟨v', rfl, hS | hx⟩ | ⟨c, _, hx⟩
  rotate_left
  ·exact hx.elim
  ·exact hx.elim
  obtain ⟨w3, hend, hS⟩ := rc_endAll (P := Tryz.prog) (st := .ready) hRC Zd hS Rp
  refine ⟨none, w3, hend, .inl ⟨rfl, ?_⟩⟩
  replace hS := hS.droplast2 (D := [ocC db (.deferred (some [])), dkC q mb lb ((t.take 0).foldl (lay1 v) (0, D)).2, .box rb 30 [.int .i64 0], .box tb 84 [.slice A t.length cap], .box vb 9 [str v], .box pb 23 [.pointer (some ⟨q, 0, none⟩)]]) Pu
  clear hfn htn htf hRC hend hwk hempty
  refine WR.seq (Q0 := endQ0 _ _ _ [db] [] _) rfl (endQ0_ok rfl) ?_
  repeat' (first | (show WL _ _ _ _ _ _ _; first | refine WL.pure rfl rfl rfl rfl ?_ | refine WL.nil ?_ | refine WL.load hS rfl rfl (LdOk.box (by repeat (first | exact Zh | apply List.Mem.tail)) rfl) rfl rfl rfl ?_) | (show WC _ _ _ _ _ _; first | refine WC.seq ?_ | refine WC.region ?_ | refine WC.block ?_) | refine seqQ_n ?_)
  refine WC.loop (σ := Nat) [3, 4, 6, 7, 47, 48] (fun k => [(8, .int .i64 0), (49, .int .i64 (k : Int))])
   (fun k w => k ≤ t.length ∧ St w0 (fps [dkC q mb lb D]) w [ocC db (.deferred (some [])), dkC q mb lb ((t.take k).foldl (lay1 v) (0, D)).2, .box rb 30 [.int .i64 0], .box tb 84 [.slice A t.length cap], .box vb 9 [str v], .box pb 23 [.pointer (some ⟨q, 0, none⟩)]] [⟨w0, fun b => b < w0.heap.size ∧ b ∉ fps [dkC q mb lb D]⟩])
   (fun k => t.length - k) 0 ⟨Nat.zero_le _, hS⟩ ⟨rfl, rfl, trivial⟩ ?_
  clear hS
  rintro k g w ⟨hk, hS⟩
  show WC _ _ _ (lf _ [(8, .int .i64 0), (49, .int .i64 (k : Int))] _ _) _ _
  by_cases hlt : k < t.length
  ·obtain ⟨eb, eo, es, rfl, hF, hrr, hes⟩ := hA.at_ hlt
   have hes : es = encEnt t[k] := hes
   subst hes
   have hrr : w0.rangeAt eb (eo + k * 3) (encEnt t[k]) := hrr
   have hto1 := (hto (k + 1) hlt).ok
   obtain ⟨E, hE⟩ : ∃ E, (t.take k).foldl (lay1 v) (0, D) = (0, E) := ⟨_, Prod.ext (hto k hk).ok rfl⟩
   have hsE := hst k
   have hE1 : (t.take (k + 1)).foldl (lay1 v) (0, D) = lay1 v (0, E) t[k] := by rw [List.take_succ_eq_append_getElem hlt, List.foldl_append, hE]; rfl
   rw [hE1] at hto1
   rw [hE] at hS hsE
   obtain ⟨l1, l2⟩ := lay1_ok hto1
   obtain ⟨z1, z2⟩ := hsz t[k] (List.getElem_mem hlt)
   have hkd := (ht k hlt).kind
   have hwh := (ht k hlt).whole
   generalize t[k] = x at *
   obtain ⟨xp, xk, xd⟩ := x
   have hp : v ++ 47 :: xp = v ++ [47] ++ xp := by simp
   dsimp only at l1 l2 z1 z2 hkd hwh
   rw [hp] at l1 l2
   have hpl : (v ++ [47] ++ xp).length ≤ 1099511627 := by simp only [List.length_append, List.length_cons, List.length_nil]; omega
   by_cases h1 : xk = 1
   ·obtain ⟨a1, a2⟩ := l1 h1
    subst h1
    repeat' (first | (show WL _ _ _ _ _ _ _; first | refine WL.pure rfl rfl rfl rfl ?_ | refine WL.nil ?_ | refine WL.load hS rfl rfl (LdOk.box (by repeat (first | exact Zh | apply List.Mem.tail)) rfl) rfl rfl rfl ?_ | refine WL.add rfl rfl rfl Zo rfl rfl rfl ?_ | (refine WL.load hS rfl rfl (LdOk.snap0 hF hrr (by repeat (first | exact Zh | apply List.Mem.tail)) rfl) rfl rfl rfl ?_) | (refine WL.cat rfl rfl rfl (by simp only [List.length_append, List.length_cons, List.length_nil]; omega) rfl rfl rfl ?_) | (refine WL.callL (D := [dkC q mb lb E]) hS Pu rfl rfl (fun hI => mkdir_c _ hI.head hI.headB hpl) rfl rfl rfl ?_; rintro v' w ⟨rfl, hm⟩ hS; rw [a1]; replace hS := hS _ (.of1 hm); clear hm) | (refine WL.store hS rfl rfl rfl Sb rfl rfl rfl ?_; intro w hS) | (refine WL.alloc hS rfl rfl rfl rfl rfl rfl ?_; intro w b hS) | refine WL.index rfl rfl rfl rfl Zw rfl rfl rfl rfl ?_) | (show WC _ _ _ _ _ _; first | refine WC.seq ?_ | refine WC.region ?_ | refine WC.block ?_ | refine WC.skip ?_ | refine WC.condF rfl Zd ?_ | refine WC.condT rfl (decide_eq_true Zw) ?_ | refine WC.condT rfl Zs ?_) | refine seqQ_n ?_ | refine blkQ_n ?_)
    exact rndQ_n (k + 1) ⟨hlt, by rw [hE1, a2]; exact hS.droplast2 Pu⟩ (by show t.length - (k + 1) < t.length - k; omega) ⟨rfl, vint Zo, trivial⟩ ⟨rfl, rfl, rfl, rfl, rfl, rfl, trivial⟩
   ·obtain ⟨a1, a2, a3⟩ := l2 h1
    have h2 : xk = 2 := by
     unfold wholeE at hwh
     split at hwh
     ·rename_i h; rcases h with h | h
      ·exact absurd h hkd
      ·exact absurd h h1
     ·split at hwh
      ·assumption
      ·cases hwh
    subst h2
    have hwr := fun (w : World) (hI : InL w [dkC q mb lb E]) => write_c (v ++ [47] ++ xp) xd hI.head hI.headB hpl (by rw [hsE.b.lim]; rfl) Zo (hsE.b.data _)
    generalize E.write (v ++ [47] ++ xp) xd = r1 at *
    obtain ⟨e1, E1⟩ := r1
    dsimp only at a1 a2 a3 hwr
    subst a1
    repeat' (first | (show WL _ _ _ _ _ _ _; first | refine WL.pure rfl rfl rfl rfl ?_ | refine WL.nil ?_ | refine WL.load hS rfl rfl (LdOk.box (by repeat (first | exact Zh | apply List.Mem.tail)) rfl) rfl rfl rfl ?_ | refine WL.add rfl rfl rfl Zo rfl rfl rfl ?_ | (refine WL.load hS rfl rfl (LdOk.snap0 hF hrr (by repeat (first | exact Zh | apply List.Mem.tail)) rfl) rfl rfl rfl ?_) | (refine WL.cat rfl rfl rfl (by simp only [List.length_append, List.length_cons, List.length_nil]; omega) rfl rfl rfl ?_) | (refine WL.callL (D := [dkC q mb lb E]) hS Pu rfl rfl (fun hI => hwr _ hI) rfl rfl rfl ?_; rintro v' w ⟨rfl, hm⟩ hS; replace hS := hS _ (.of1 hm); clear hm) | (refine WL.callL (D := [dkC q mb lb E1]) hS Pu rfl rfl (fun hI => sync_c _ hI.head hI.headB hpl) rfl rfl rfl ?_; rintro v' w ⟨rfl, hm⟩ hS; rw [a2]; replace hS := hS _ (.of1 hm); clear hm) | (refine WL.store hS rfl rfl rfl Sb rfl rfl rfl ?_; intro w hS) | (refine WL.alloc hS rfl rfl rfl rfl rfl rfl ?_; intro w b hS) | refine WL.index rfl rfl rfl rfl Zw rfl rfl rfl rfl ?_) | (show WC _ _ _ _ _ _; first | refine WC.seq ?_ | refine WC.region ?_ | refine WC.block ?_ | refine WC.skip ?_ | (show WC _ _ (Code.region _ (List.toArray [_, _, _, _, _, _, _, _]) true) _ _ _; refine WC.drawS hS [0,1,2,4,5,6,7] [0,1,2,4,5,3,6,7] Zk Zk ?_; clear hS; intro w hS hM) | refine WC.condT rfl Zd ?_ | refine WC.condF rfl Zd ?_ | refine WC.condT rfl (decide_eq_true Zw) ?_ | refine WC.condF rfl (decide_eq_false Zw) ?_ | refine WC.condT rfl Zs ?_) | (show WD _ _ _ _ _ _ _ _ _; first | refine WD.pure rfl rfl rfl rfl rfl ?_ | refine WD.nil ?_ | refine WD.load rfl rfl (LdOk.box (by repeat (first | exact Zh | apply List.Mem.tail)) rfl) rfl rfl rfl rfl ?_ | (refine WD.calls hS hM rfl rfl (trget_c [] xp (n := 0) (fun i hi => absurd hi (Nat.not_lt_zero _)) (fun i j hi hj _ => absurd hj (Nat.not_lt_zero _)) (Nat.zero_le _) rfl) rfl rfl rfl rfl rfl ?_; clear hS; rintro v' w rfl hS; rw [show getT [] xp = ⟨[], 0, []⟩ from rfl]) | refine WD.neS rfl rfl rfl rfl Zk rfl rfl rfl rfl ?_) | refine seqQ_n ?_ | refine blkQ_n ?_)
    exact rndQ_n (k + 1) ⟨hlt, by rw [hE1, a3]; exact hS.droplast2 Pu⟩ (by show t.length - (k + 1) < t.length - k; omega) ⟨rfl, vint Zo, trivial⟩ ⟨rfl, rfl, rfl, rfl, rfl, rfl, trivial⟩
  ·have e : k = t.length := Zo
   subst e
   rw [List.take_length] at hS
   repeat' (first | (show WL _ _ _ _ _ _ _; first | refine WL.pure rfl rfl rfl rfl ?_ | refine WL.nil ?_) | (show WC _ _ _ _ _ _; first | refine WC.seq ?_ | refine WC.region ?_ | refine WC.exit ?_ | refine WC.condF rfl (decide_eq_false Zw) ?_) | refine seqQ_n ?_ | refine seqQ_x ?_ | refine blkQ_hit rfl ?_ | refine rndQ_x ?_)
   show WR _ _ _ _ _ _
   refine WR.seq (Q0 := endQ0 _ _ _ [db] [] _) rfl (endQ0_ok rfl) ?_
   repeat' (first | (show WL _ _ _ _ _ _ _; first | refine WL.nil ?_ | (refine WL.store hS rfl rfl rfl Sb rfl rfl rfl ?_; intro w hS)) | (show WC _ _ _ _ _ _; first | refine WC.region ?_) | fail)
   show WR _ _ _ _ _ _
   refine WR.ofC (Q0 := endQ0 _ _ _ [db] [] _) rfl ?_ (endQ0_ok rfl)
   repeat' (first | (show WC _ _ _ _ _ _; first | refine WC.ret ?_) | fail)
   intro a ha
   obtain ⟨w3, htk, hS⟩ := run_take (P := Tryz.prog) hS Rp
   refine ⟨w3, htk, ?_⟩
   exact ⟨_, sl_res (hS.pulls (D := [.box rb 30 [.int .i64 0]]) Pu) (ha.get 6), _, rfl, rfl, hS.mutLp Pu⟩
open Go Go.J Go.RowKit
theorem rwhole_c (kind : Int) (data : List UInt8) (w0 : World) : Cal Tryz.prog 158 [.agg ⟨[.int .i64 kind, str data]⟩] w0 (fun v w' => Upd [] w0 w' ∧ v = .bool (wholeE kind data)) := by
 refine Cal.mk' Zk Tryz.func158 rfl rfl fun hS => ?_
 by_cases h2 : kind = 2
 ·have e : wholeE kind data = decide ((data.length : Int) ≤ 4096) := by
   unfold wholeE
   rw [if_neg Zo, if_pos h2]
   by_cases hd : data.length ≤ 4096
   ·rw [decide_eq_true hd, decide_eq_true Zo]
   ·rw [decide_eq_false hd, decide_eq_false Zo]
  rw [e]
  subst h2
  repeat' (first | (show WL _ _ _ _ _ _ _; first | refine WL.pure rfl rfl rfl rfl ?_ | refine WL.nil ?_ | refine WL.load hS rfl rfl (LdOk.box (by repeat (first | exact Zh | apply List.Mem.tail)) rfl) rfl rfl rfl ?_ | (refine WL.box hS rfl rfl rfl rfl rfl ?_; intro w b hS)) | (show WC _ _ _ _ _ _; first | refine WC.seq ?_ | refine WC.region ?_ | refine WC.ret ?_ | refine WC.condT rfl Zd ?_) | refine seqQ_n ?_ | refine seqQ_r ?_)
  exact fin1r rfl rfl ⟨hS.upd, rfl⟩
 by_cases h01 : kind = 0 ∨ kind = 1
 ·have e : wholeE kind data = decide ((data.length : Int) = 0) := by
   unfold wholeE
   rw [if_pos h01]
   by_cases hd : data = []
   ·rw [decide_eq_true hd, decide_eq_true (by rw [hd]; rfl)]
   ·have := List.length_pos_iff.2 hd
    rw [decide_eq_false hd, decide_eq_false Zo]
  rw [e]
  rcases h01 with h | h
  all_goals
   subst h
   repeat' (first | (show WL _ _ _ _ _ _ _; first | refine WL.pure rfl rfl rfl rfl ?_ | refine WL.nil ?_ | refine WL.load hS rfl rfl (LdOk.box (by repeat (first | exact Zh | apply List.Mem.tail)) rfl) rfl rfl rfl ?_ | (refine WL.box hS rfl rfl rfl rfl rfl ?_; intro w b hS) | refine WL.skip rfl rfl rfl ?_) | (show WC _ _ _ _ _ _; first | refine WC.seq ?_ | refine WC.region ?_ | refine WC.skip ?_ | refine WC.ret ?_ | refine WC.condF rfl Zd ?_) | refine seqQ_n ?_)
   exact fin1r rfl rfl ⟨hS.upd, rfl⟩
 ·have e : wholeE kind data = false := by unfold wholeE; rw [if_neg h01, if_neg h2]
  have h0 : ¬ kind = 0 := fun h => h01 (.inl h)
  have h1 : ¬ kind = 1 := fun h => h01 (.inr h)
  rw [e]
  clear h01
  repeat' (first | (show WL _ _ _ _ _ _ _; first | refine WL.pure rfl rfl rfl rfl ?_ | refine WL.nil ?_ | refine WL.load hS rfl rfl (LdOk.box (by repeat (first | exact Zh | apply List.Mem.tail)) rfl) rfl rfl rfl ?_ | (refine WL.box hS rfl rfl rfl rfl rfl ?_; intro w b hS) | refine WL.skip rfl rfl rfl ?_ | ((fail_if_success (refine WL.wanted rfl ?_)); refine WL.guard rfl rfl rfl (fun h => ?_) (fun h => ?_) <;> (try simp only [Ya,Yb,Yc,Yd,Ye,Yf,Yg,Yh,Yi,Yj,Yk,Yl,Ym,Yn,Yo,Yp] at h) <;> (try exact Zx))) | (show WC _ _ _ _ _ _; first | refine WC.seq ?_ | refine WC.region ?_ | refine WC.skip ?_ | refine WC.ret ?_ | refine WC.condF rfl (decide_eq_false Zw) ?_) | refine seqQ_n ?_)
  exact fin1r rfl rfl ⟨hS.upd, vbool (by simp [h0, h1])⟩
theorem rget_c (t : List Ent) (p : List UInt8) {A : Option Addr} {cap : Nat} {w0 : World} (hA : SlAt cEnt (Old w0) w0 A t) (hl : t.length ≤ 1048576) :
  Cal Tryz.prog 54 [.slice A t.length cap, str p] w0 (fun v w' => Upd [] w0 w' ∧ v = nodeV (getT t p)) := by
 refine Cal.mk' Zk Tryz.func54 rfl rfl fun hS => ?_
 repeat' (first | (show WL _ _ _ _ _ _ _; first | refine WL.pure rfl rfl rfl rfl ?_ | refine WL.nil ?_ | (refine WL.alloc hS rfl rfl rfl rfl rfl rfl ?_; intro w b hS)) | (show WC _ _ _ _ _ _; first | refine WC.seq ?_ | refine WC.region ?_ | refine WC.block ?_) | refine seqQ_n ?_)
 refine WC.loop (σ := Nat) [0, 1, 4] (fun k => [(5, .int .i64 (k : Int))]) (fun k w => (k ≤ t.length ∧ ∀ e ∈ t.take k, e.path ≠ p) ∧ St w0 [] w [.box _ 94 [.int .i64 0, str []]] [⟨w0, Old w0⟩]) (fun k => t.length - k) 0 ⟨⟨Nat.zero_le _, by simp⟩, hS⟩ ⟨rfl, trivial⟩ ?_
 clear hS
 rintro k g w ⟨⟨hk, hno⟩, hS⟩
 show WC _ _ _ (lf _ [(5, .int .i64 (k : Int))] _ _) _ _
 by_cases hlt : k < t.length
 ·obtain ⟨rb, ro, es, rfl, hF, hrr, hes⟩ := hA.at_ hlt
  have hes : es = encEnt t[k] := hes
  subst hes
  have hrr : w0.rangeAt rb (ro + k * 3) (encEnt t[k]) := hrr
  by_cases he : t[k].path = p
  ·have hg : getT t p = t[k] := by
    unfold getT
    rw [show (t.find? fun e => decide (e.path = p)) = some t[k] from by
     rw [List.find?_eq_some_iff_append]
     refine ⟨by simpa using he, t.take k, t.drop (k + 1), ?_, fun e hm => by simpa using hno e hm⟩
     rw [← List.drop_eq_getElem_cons hlt, List.take_append_drop]]
    rfl
   rw [hg]
   generalize t[k] = e at *
   obtain ⟨epath, ekind, edata⟩ := e
   have he : epath = p := he
   subst he
   clear hno hg
   repeat' (first | (show WL _ _ _ _ _ _ _; first | refine WL.pure rfl rfl rfl rfl ?_ | refine WL.nil ?_ | (refine WL.load hS rfl rfl (LdOk.snap (off := 0) hF hrr (by repeat (first | exact Zh | apply List.Mem.tail)) rfl) rfl rfl rfl ?_) | (refine WL.load hS rfl rfl (LdOk.snap (off := 1) hF hrr (by repeat (first | exact Zh | apply List.Mem.tail)) rfl) rfl rfl rfl ?_) | (refine WL.store hS rfl rfl rfl Sb rfl rfl rfl ?_; intro w hS) | refine WL.index rfl rfl rfl rfl Zw rfl rfl rfl rfl ?_) | (show WC _ _ _ _ _ _; first | refine WC.seq ?_ | refine WC.region ?_ | refine WC.block ?_ | refine WC.skip ?_ | refine WC.ret ?_ | refine WC.condT rfl (decide_eq_true Zw) ?_) | refine seqQ_n ?_ | refine seqQ_r ?_ | refine blkQ_r ?_ | refine rndQ_r ?_)
   exact finC1r hS rfl rfl (LdOk.box Zh rfl) ⟨hS.upd, rfl⟩
  ·have hno2 : ∀ e ∈ t.take (k + 1), e.path ≠ p := fun e hm => by
    rw [List.take_succ_eq_append_getElem hlt, List.mem_append, List.mem_singleton] at hm
    rcases hm with hm | rfl
    ·exact hno e hm
    ·exact he
   obtain ⟨HN, rfl⟩ : ∃ h : (∀ e ∈ t.take (k + 1), e.path ≠ p), h = hno2 := ⟨_, rfl⟩
   generalize t[k] = e at *
   obtain ⟨epath, ekind, edata⟩ := e
   have he : ¬ epath = p := he
   clear hno
   repeat' (first | (show WL _ _ _ _ _ _ _; first | refine WL.pure rfl rfl rfl rfl ?_ | refine WL.nil ?_ | refine WL.add rfl rfl rfl Zo rfl rfl rfl ?_ | (refine WL.load hS rfl rfl (LdOk.snap (off := 0) hF hrr (by repeat (first | exact Zh | apply List.Mem.tail)) rfl) rfl rfl rfl ?_) | refine WL.index rfl rfl rfl rfl Zw rfl rfl rfl rfl ?_) | (show WC _ _ _ _ _ _; first | refine WC.seq ?_ | refine WC.region ?_ | refine WC.block ?_ | refine WC.skip ?_ | refine WC.condT rfl (decide_eq_true Zw) ?_ | refine WC.condF rfl (decide_eq_false Zw) ?_) | refine seqQ_n ?_ | refine blkQ_n ?_)
   exact rndQ_n (k + 1) ⟨⟨Zo, HN⟩, hS⟩ (by show t.length - (k + 1) < t.length - k; omega) ⟨vint Zo, trivial⟩ ⟨rfl, rfl, rfl, trivial⟩
 ·have hke : k = t.length := Zo
  subst hke
  rw [List.take_length] at hno
  rw [getT_no hno]
  clear hno
  repeat' (first | (show WL _ _ _ _ _ _ _; first | refine WL.pure rfl rfl rfl rfl ?_ | refine WL.nil ?_ | (refine WL.store hS rfl rfl rfl Sb rfl rfl rfl ?_; intro w hS) | refine WL.build rfl rfl rfl rfl rfl ?_) | (show WC _ _ _ _ _ _; first | refine WC.seq ?_ | refine WC.region ?_ | refine WC.exit ?_ | refine WC.ret ?_ | refine WC.condF rfl (decide_eq_false Zw) ?_) | refine seqQ_n ?_ | refine seqQ_x ?_ | refine blkQ_hit rfl ?_ | refine rndQ_x ?_)
  exact finC1r hS rfl rfl (LdOk.box Zh rfl) ⟨hS.upd, rfl⟩
theorem rsame_c (l : List Ent) {A B : Option Addr} {cap cap2 : Nat} {w0 : World} (hA : SlAt cEnt (Old w0) w0 A l) (hB : SlAt cEnt (Old w0) w0 B l) (hl : l.length ≤ 1099511627776) :
  Cal Tryz.prog 53 [.slice A l.length cap, .slice B l.length cap2] w0 (fun v w' => Upd [] w0 w' ∧ v = .bool true) := by
 refine Cal.mk' Zk Tryz.func53 rfl rfl fun hS => ?_
 repeat' (first | (show WL _ _ _ _ _ _ _; first | refine WL.pure rfl rfl rfl rfl ?_ | refine WL.nil ?_) | (show WC _ _ _ _ _ _; first | refine WC.seq ?_ | refine WC.region ?_ | refine WC.block ?_ | refine WC.skip ?_ | refine WC.condF rfl (decide_eq_false Zw) ?_) | refine seqQ_n ?_)
 refine WC.loop (σ := Nat) [0, 1] (fun k => [(5, .int .i64 (k : Int))]) (fun k w => k ≤ l.length ∧ St w0 [] w [] [⟨w0, Old w0⟩]) (fun k => l.length - k) 0 ⟨Nat.zero_le _, hS⟩ ⟨rfl, trivial⟩ ?_
 clear hS
 rintro k g w ⟨hk, hS⟩
 show WC _ _ _ (lf _ [(5, .int .i64 (k : Int))] _ _) _ _
 by_cases hlt : k < l.length
 ·obtain ⟨rb, ro, es, rfl, hF, hrr, hes⟩ := hA.at_ hlt
  obtain ⟨rb2, ro2, es2, rfl, hF2, hr2, hes2⟩ := hB.at_ hlt
  have hes : es = encEnt l[k] := hes
  have hes2 : es2 = encEnt l[k] := hes2
  subst hes hes2
  have hrr : w0.rangeAt rb (ro + k * 3) (encEnt l[k]) := hrr
  have hr2 : w0.rangeAt rb2 (ro2 + k * 3) (encEnt l[k]) := hr2
  generalize l[k] = o at *
  obtain ⟨opath, okind, odata⟩ := o
  repeat' (first | (show WL _ _ _ _ _ _ _; first | refine WL.pure rfl rfl rfl rfl ?_ | refine WL.nil ?_ | refine WL.add rfl rfl rfl Zo rfl rfl rfl ?_) | (show WC _ _ _ _ _ _; first | refine WC.seq ?_ | refine WC.region ?_ | refine WC.block ?_ | refine WC.skip ?_ | (show WC _ _ (Code.region _ (List.toArray [_, _, _, _, _, _, _, _, _]) true) _ _ _; refine WC.drawS hS [0, 1, 2, 3, 4, 5, 6, 7, 8] [0, 1, 2, 3, 4, 5, 6, 7, 8] Zk Zk ?_; clear hS; intro w hS hM) | refine WC.condT rfl (decide_eq_true Zw) ?_ | refine WC.condF rfl Zs ?_) | (show WD _ _ _ _ _ _ _ _ _; first | refine WD.pure rfl rfl rfl rfl rfl ?_ | refine WD.nil ?_ | (refine WD.load rfl rfl (LdOk.snap0 hF hrr (by repeat (first | exact Zh | apply List.Mem.tail)) rfl) rfl rfl rfl rfl ?_) | (refine WD.load rfl rfl (LdOk.snap0 hF2 hr2 (by repeat (first | exact Zh | apply List.Mem.tail)) rfl) rfl rfl rfl rfl ?_) | refine WD.index rfl rfl rfl rfl Zw rfl rfl rfl rfl rfl ?_ | refine WD.neS rfl rfl rfl rfl Zk rfl rfl rfl rfl ?_) | refine seqQ_n ?_ | refine blkQ_n ?_)
  exact rndQ_n (k + 1) ⟨Zo, hS⟩ (by show l.length - (k + 1) < l.length - k; omega) ⟨vint Zo, trivial⟩ ⟨rfl, rfl, trivial⟩
 ·have hke : k = l.length := Zo
  subst hke
  repeat' (first | (show WL _ _ _ _ _ _ _; first | refine WL.pure rfl rfl rfl rfl ?_ | refine WL.nil ?_) | (show WC _ _ _ _ _ _; first | refine WC.seq ?_ | refine WC.region ?_ | refine WC.exit ?_ | refine WC.ret ?_ | refine WC.condF rfl (decide_eq_false Zw) ?_) | refine seqQ_n ?_ | refine seqQ_x ?_ | refine blkQ_hit rfl ?_ | refine rndQ_x ?_)
  exact fin1r rfl rfl ⟨hS.upd, rfl⟩
def RefTo (t : List Ent) (n : Nat) : Prop := ∀ i (h : i < t.length), i < n → RefOk t i h
theorem checkT_badR {t : List Ent} (h : t.length ≤ 200) {i : Nat} (hi : i < t.length) (hb : ¬ RefOk t i hi) : checkT t = 3 := by
 unfold checkT
 rw [if_neg Zo, if_neg (fun hh => hb (tree_refOk hh i hi))]
theorem rtcheck_c (t : List Ent) {A : Option Addr} {cap : Nat} {w0 : World} (hA : SlAt cEnt (Old w0) w0 A t) (hcap : t.length ≤ cap) (hl : t.length ≤ 1048576) (hz : ∀ e ∈ t, e.path.length ≤ 1048576) :
  Cal Tryz.prog 108 [.slice A t.length cap] w0 (fun v w' => Upd [] w0 w' ∧ v = .int .i64 (checkT t)) := by
 refine Cal.mk' Zk Tryz.func108 rfl rfl fun hS => ?_
 by_cases h200 : t.length ≤ 200
 rotate_left
 ·have e : checkT t = 4 := by unfold checkT; rw [if_pos Zo]
  rw [e]
  repeat' (first | (show WL _ _ _ _ _ _ _; first | refine WL.pure rfl rfl rfl rfl ?_ | refine WL.nil ?_) | (show WC _ _ _ _ _ _; first | refine WC.seq ?_ | refine WC.region ?_ | refine WC.ret ?_ | refine WC.condT rfl (decide_eq_true Zw) ?_) | refine seqQ_n ?_ | refine seqQ_r ?_)
  exact fin1r rfl rfl ⟨hS.upd, rfl⟩
 repeat' (first | (show WL _ _ _ _ _ _ _; first | refine WL.pure rfl rfl rfl rfl ?_ | refine WL.nil ?_) | (show WC _ _ _ _ _ _; first | refine WC.seq ?_ | refine WC.region ?_ | refine WC.block ?_ | refine WC.skip ?_ | refine WC.condF rfl (decide_eq_false Zw) ?_) | refine seqQ_n ?_)
 refine WC.loop (σ := Nat) [0] (fun i => [(3, .int .i64 (i : Int))]) (fun i w => (i ≤ t.length ∧ RefTo t i) ∧ St w0 [] w [] [⟨w0, Old w0⟩]) (fun i => t.length - i) 0 ⟨⟨Nat.zero_le _, fun i _ h => absurd h (Nat.not_lt_zero _)⟩, hS⟩ ⟨rfl, trivial⟩ ?_
 clear hS
 rintro i g w ⟨⟨hi, hto⟩, hS⟩
 show WC _ _ _ (lf _ [(3, .int .i64 (i : Int))] _ _) _ _
 by_cases hlt : i < t.length
 rotate_left
 ·have hie : i = t.length := Zo
  subst hie
  rw [checkT_ok h200 (refOk_tree fun j hj => hto j hj hj)]
  clear hto
  repeat' (first | (show WL _ _ _ _ _ _ _; first | refine WL.pure rfl rfl rfl rfl ?_ | refine WL.nil ?_) | (show WC _ _ _ _ _ _; first | refine WC.seq ?_ | refine WC.region ?_ | refine WC.exit ?_ | refine WC.ret ?_ | refine WC.condF rfl (decide_eq_false Zw) ?_) | refine seqQ_n ?_ | refine seqQ_x ?_ | refine blkQ_hit rfl ?_ | refine rndQ_x ?_)
  exact fin1r rfl rfl ⟨hS.upd, rfl⟩
 obtain ⟨rb, ro, es, rfl, hF, hrr, hes⟩ := hA.at_ hlt
 have hes : es = encEnt t[i] := hes
 subst hes
 have hrr : w0.rangeAt rb (ro + i * 3) (encEnt t[i]) := hrr
 have hpl := hz t[i] (List.getElem_mem hlt)
 have hbad := fun (h : ¬ RefOk t i hlt) => checkT_badR h200 hlt h
 have hprev : 0 < i → ∃ pb po, (some ⟨rb, ro, none⟩ : Option Addr) = some ⟨pb, po, none⟩ ∧ ∃ h : i - 1 < t.length, Old w0 pb ∧ w0.rangeAt pb (po + (i - 1) * 3) (encEnt t[i - 1]) := fun h0 => by
  have h1 : i - 1 < t.length := Zo
  obtain ⟨pb, po, es, hA2, hF2, hr2, hes2⟩ := hA.at_ h1
  have hes2 : es = encEnt t[i - 1] := hes2
  subst hes2
  exact ⟨pb, po, hA2, h1, hF2, hr2⟩
 have hnext : RefOk t i hlt → RefTo t (i + 1) := fun h j hj hji => by
  by_cases e : j = i
  ·subst e; exact h
  ·exact hto j hj Zo
 have hfail : (checkE t[i].path 5 ≠ 0 ∨ wholeE t[i].kind t[i].data = false ∨ t[i].kind = 0 ∨ (∃ h0 : 0 < i, Op.bytesLess (t[i - 1]'Zo).path t[i].path = false) ∨ (parentE t[i].path ≠ [] ∧ (getT t (parentE t[i].path)).kind ≠ 1)) → checkT t = 3 := fun h => hbad fun ho => by
  rcases h with h | h | h | ⟨h0, h⟩ | ⟨h1, h2⟩
  ·exact h ho.path
  ·have := ho.whole; rw [h] at this; cases this
  ·exact ho.kind h
  ·have := ho.ord (i - 1) Zo; rw [h] at this; cases this
  ·exact h2 (ho.up h1)
 have hgood : checkE t[i].path 5 = 0 → wholeE t[i].kind t[i].data = true → t[i].kind ≠ 0 → (∀ h0 : 0 < i, Op.bytesLess (t[i - 1]'Zo).path t[i].path = true) → (parentE t[i].path ≠ [] → (getT t (parentE t[i].path)).kind = 1) → RefTo t (i + 1) := fun h1 h2 h3 h4 h5 =>
  hnext ⟨h1, h2, h3, fun j hj => by subst hj; exact h4 Zo, h5⟩
 have hq : 0 < i → ∃ q, ∃ h1 : i - 1 < t.length, q = t[i - 1] := fun h0 => ⟨_, Zo, rfl⟩
 clear hbad hnext hto
 obtain ⟨c, hcp⟩ : ∃ c, checkE t[i].path 5 = c := ⟨_, rfl⟩
 obtain ⟨wb, hwb⟩ : ∃ wb, wholeE t[i].kind t[i].data = wb := ⟨_, rfl⟩
 obtain ⟨up, hup⟩ : ∃ up, parentE t[i].path = up := ⟨_, rfl⟩
 rw [hcp, hwb, hup] at hfail hgood
 obtain ⟨gt, hgt⟩ : ∃ gt, getT t up = gt := ⟨_, rfl⟩
 rw [hgt] at hfail hgood
 obtain ⟨gpath, gkind, gdata⟩ := gt
 have hgt : getT t up = ⟨gpath, gkind, gdata⟩ := hgt
 have hfail : (c ≠ 0 ∨ wb = false ∨ t[i].kind = 0 ∨ (∃ h0 : 0 < i, Op.bytesLess (t[i - 1]'Zo).path t[i].path = false) ∨ (up ≠ [] ∧ gkind ≠ 1)) → checkT t = 3 := hfail
 have hgood : c = 0 → wb = true → t[i].kind ≠ 0 → (∀ h0 : 0 < i, Op.bytesLess (t[i - 1]'Zo).path t[i].path = true) → (up ≠ [] → gkind = 1) → RefTo t (i + 1) := hgood
 by_cases hc0 : c = 0
 rotate_left
 ·rw [hfail (.inl hc0)]
  generalize t[i] = e at *
  obtain ⟨path, kind, data⟩ := e
  dsimp only at hcp hwb hup hpl
  clear hfail hgood hprev hq
  repeat' (first | (show WL _ _ _ _ _ _ _; first | refine WL.pure rfl rfl rfl rfl ?_ | refine WL.nil ?_ | (refine WL.load hS rfl rfl (LdOk.snap (off := 0) hF hrr (by repeat (first | exact Zh | apply List.Mem.tail)) rfl) rfl rfl rfl ?_) | (refine WL.calls hS rfl rfl (rcheck_c path 5 _ Zo) rfl rfl rfl ?_; rintro v w rfl hS; rw [hcp]) | refine WL.index rfl rfl rfl rfl Zw rfl rfl rfl rfl ?_ | refine WL.skip rfl rfl rfl ?_ | ((fail_if_success (refine WL.wanted rfl ?_)); refine WL.guard rfl rfl rfl (fun h => ?_) (fun h => ?_) <;> (try simp only [Ya,Yb,Yc,Yd,Ye,Yf,Yg,Yh,Yi,Yj,Yk,Yl,Ym,Yn,Yo,Yp] at h) <;> (try exact Zx))) | (show WC _ _ _ _ _ _; first | refine WC.seq ?_ | refine WC.region ?_ | refine WC.block ?_ | refine WC.skip ?_ | refine WC.ret ?_ | refine WC.condT rfl Zr ?_ | refine WC.condT rfl (decide_eq_true Zw) ?_) | refine seqQ_n ?_ | refine seqQ_r ?_ | refine blkQ_r ?_ | refine rndQ_r ?_)
  exact fin1r rfl rfl ⟨hS.upd, rfl⟩
 subst hc0
 cases wb with
 |false =>
  rw [hfail (.inr (.inl rfl))]
  generalize t[i] = e at *
  obtain ⟨path, kind, data⟩ := e
  dsimp only at hcp hwb hup hpl
  clear hfail hgood hprev hq
  repeat' (first | (show WL _ _ _ _ _ _ _; first | refine WL.pure rfl rfl rfl rfl ?_ | refine WL.nil ?_ | (refine WL.load hS rfl rfl (LdOk.snap (off := 0) hF hrr (by repeat (first | exact Zh | apply List.Mem.tail)) rfl) rfl rfl rfl ?_) | (refine WL.load hS rfl rfl (LdOk.snap (off := 1) hF hrr (by repeat (first | exact Zh | apply List.Mem.tail)) rfl) rfl rfl rfl ?_) | (refine WL.calls hS rfl rfl (rcheck_c path 5 _ Zo) rfl rfl rfl ?_; rintro v w rfl hS; rw [hcp]) | (refine WL.calls hS rfl rfl (rwhole_c kind data _) rfl rfl rfl ?_; rintro v w rfl hS; rw [hwb]) | refine WL.index rfl rfl rfl rfl Zw rfl rfl rfl rfl ?_ | refine WL.skip rfl rfl rfl ?_) | (show WC _ _ _ _ _ _; first | refine WC.seq ?_ | refine WC.region ?_ | refine WC.block ?_ | refine WC.skip ?_ | refine WC.ret ?_ | refine WC.condT rfl Zr ?_ | refine WC.condT rfl (decide_eq_true Zw) ?_) | refine seqQ_n ?_ | refine seqQ_r ?_ | refine blkQ_r ?_ | refine rndQ_r ?_)
  exact fin1r rfl rfl ⟨hS.upd, rfl⟩
 |true =>
  by_cases hk0 : t[i].kind = 0
  ·rw [hfail (.inr (.inr (.inl hk0)))]
   generalize t[i] = e at *
   obtain ⟨path, kind, data⟩ := e
   dsimp only at hcp hwb hup hpl
   have hk0 : kind = 0 := hk0
   clear hfail hgood hprev hq
   repeat' (first | (show WL _ _ _ _ _ _ _; first | refine WL.pure rfl rfl rfl rfl ?_ | refine WL.nil ?_ | (refine WL.load hS rfl rfl (LdOk.snap (off := 0) hF hrr (by repeat (first | exact Zh | apply List.Mem.tail)) rfl) rfl rfl rfl ?_) | (refine WL.load hS rfl rfl (LdOk.snap (off := 1) hF hrr (by repeat (first | exact Zh | apply List.Mem.tail)) rfl) rfl rfl rfl ?_) | (refine WL.calls hS rfl rfl (rcheck_c path 5 _ Zo) rfl rfl rfl ?_; rintro v w rfl hS; rw [hcp]) | (refine WL.calls hS rfl rfl (rwhole_c kind data _) rfl rfl rfl ?_; rintro v w rfl hS; rw [hwb]) | refine WL.index rfl rfl rfl rfl Zw rfl rfl rfl rfl ?_ | refine WL.skip rfl rfl rfl ?_ | ((fail_if_success (refine WL.wanted rfl ?_)); refine WL.guard rfl rfl rfl (fun h => ?_) (fun h => ?_) <;> (try simp only [Ya,Yb,Yc,Yd,Ye,Yf,Yg,Yh,Yi,Yj,Yk,Yl,Ym,Yn,Yo,Yp] at h) <;> (try exact Zx))) | (show WC _ _ _ _ _ _; first | refine WC.seq ?_ | refine WC.region ?_ | refine WC.block ?_ | refine WC.skip ?_ | refine WC.ret ?_ | refine WC.condT rfl Zr ?_ | refine WC.condT rfl (decide_eq_true Zw) ?_) | refine seqQ_n ?_ | refine seqQ_r ?_ | refine blkQ_r ?_ | refine rndQ_r ?_)
   exact fin1r rfl rfl ⟨hS.upd, rfl⟩
  by_cases h0 : 0 < i
  rotate_left
  ·have hi0 : i = 0 := Zo
   have hg2 := hgood rfl rfl hk0 (fun h => absurd h h0)
   have hf2 := fun h => hfail (.inr (.inr (.inr (.inr h))))
   generalize t[i] = e at *
   obtain ⟨path, kind, data⟩ := e
   dsimp only at hcp hwb hup hpl
   have hk0 : ¬ kind = 0 := hk0
   clear hfail hgood hprev hq
   by_cases hu : up = []
   ·have hg3 := hg2 (fun h => absurd hu h)
    subst hu
    clear hg2 hf2
    repeat' (first | (show WL _ _ _ _ _ _ _; first | refine WL.pure rfl rfl rfl rfl ?_ | refine WL.nil ?_ | refine WL.add rfl rfl rfl Zo rfl rfl rfl ?_ | (refine WL.load hS rfl rfl (LdOk.snap (off := 0) hF hrr (by repeat (first | exact Zh | apply List.Mem.tail)) rfl) rfl rfl rfl ?_) | (refine WL.load hS rfl rfl (LdOk.snap (off := 1) hF hrr (by repeat (first | exact Zh | apply List.Mem.tail)) rfl) rfl rfl rfl ?_) | (refine WL.calls hS rfl rfl (rcheck_c path 5 _ Zo) rfl rfl rfl ?_; rintro v w rfl hS; rw [hcp]) | (refine WL.calls hS rfl rfl (rwhole_c kind data _) rfl rfl rfl ?_; rintro v w rfl hS; rw [hwb]) | (refine WL.calls hS rfl rfl (rparent_c path _ Zo) rfl rfl rfl ?_; rintro v w rfl hS; rw [hup]) | refine WL.index rfl rfl rfl rfl Zw rfl rfl rfl rfl ?_ | refine WL.skip rfl rfl rfl ?_ | ((fail_if_success (refine WL.wanted rfl ?_)); refine WL.guard rfl rfl rfl (fun h => ?_) (fun h => ?_) <;> (try simp only [Ya,Yb,Yc,Yd,Ye,Yf,Yg,Yh,Yi,Yj,Yk,Yl,Ym,Yn,Yo,Yp] at h) <;> (try exact Zx))) | (show WC _ _ _ _ _ _; first | refine WC.seq ?_ | refine WC.region ?_ | refine WC.block ?_ | refine WC.skip ?_ | refine WC.condF rfl Zr ?_ | refine WC.condT rfl (decide_eq_true Zw) ?_) | refine seqQ_n ?_ | refine blkQ_n ?_)
    exact rndQ_n (i + 1) ⟨⟨Zo, hg3⟩, hS⟩ (by show t.length - (i + 1) < t.length - i; omega) ⟨vint Zo, trivial⟩ ⟨rfl, trivial⟩
   ·by_cases hgk : gkind = 1
    ·have hg3 := hg2 (fun _ => hgk)
     subst hgk
     clear hg2 hf2
     repeat' (first | (show WL _ _ _ _ _ _ _; first | refine WL.pure rfl rfl rfl rfl ?_ | refine WL.nil ?_ | refine WL.add rfl rfl rfl Zo rfl rfl rfl ?_ | (refine WL.load hS rfl rfl (LdOk.snap (off := 0) hF hrr (by repeat (first | exact Zh | apply List.Mem.tail)) rfl) rfl rfl rfl ?_) | (refine WL.load hS rfl rfl (LdOk.snap (off := 1) hF hrr (by repeat (first | exact Zh | apply List.Mem.tail)) rfl) rfl rfl rfl ?_) | (refine WL.calls hS rfl rfl (rcheck_c path 5 _ Zo) rfl rfl rfl ?_; rintro v w rfl hS; rw [hcp]) | (refine WL.calls hS rfl rfl (rwhole_c kind data _) rfl rfl rfl ?_; rintro v w rfl hS; rw [hwb]) | (refine WL.calls hS rfl rfl (rparent_c path _ Zo) rfl rfl rfl ?_; rintro v w rfl hS; rw [hup]) | (refine WL.calls hS rfl rfl (rget_c t up (hS.slO (by repeat (first | exact Zh | apply List.Mem.tail)) hA) hl) rfl rfl rfl ?_; rintro v w rfl hS; rw [hgt]) | refine WL.index rfl rfl rfl rfl Zw rfl rfl rfl rfl ?_ | refine WL.skip rfl rfl rfl ?_ | ((fail_if_success (refine WL.wanted rfl ?_)); refine WL.guard rfl rfl rfl (fun h => ?_) (fun h => ?_) <;> (try simp only [Ya,Yb,Yc,Yd,Ye,Yf,Yg,Yh,Yi,Yj,Yk,Yl,Ym,Yn,Yo,Yp] at h) <;> (try exact Zx))) | (show WC _ _ _ _ _ _; first | refine WC.seq ?_ | refine WC.region ?_ | refine WC.block ?_ | refine WC.skip ?_ | refine WC.condF rfl Zr ?_ | refine WC.condT rfl (decide_eq_true Zw) ?_ | refine WC.condF rfl Zs ?_) | refine seqQ_n ?_ | refine blkQ_n ?_)
     exact rndQ_n (i + 1) ⟨⟨Zo, hg3⟩, hS⟩ (by show t.length - (i + 1) < t.length - i; omega) ⟨vint Zo, trivial⟩ ⟨rfl, trivial⟩
    ·rw [hf2 ⟨hu, hgk⟩]
     clear hg2 hf2
     repeat' (first | (show WL _ _ _ _ _ _ _; first | refine WL.pure rfl rfl rfl rfl ?_ | refine WL.nil ?_ | (refine WL.load hS rfl rfl (LdOk.snap (off := 0) hF hrr (by repeat (first | exact Zh | apply List.Mem.tail)) rfl) rfl rfl rfl ?_) | (refine WL.load hS rfl rfl (LdOk.snap (off := 1) hF hrr (by repeat (first | exact Zh | apply List.Mem.tail)) rfl) rfl rfl rfl ?_) | (refine WL.calls hS rfl rfl (rcheck_c path 5 _ Zo) rfl rfl rfl ?_; rintro v w rfl hS; rw [hcp]) | (refine WL.calls hS rfl rfl (rwhole_c kind data _) rfl rfl rfl ?_; rintro v w rfl hS; rw [hwb]) | (refine WL.calls hS rfl rfl (rparent_c path _ Zo) rfl rfl rfl ?_; rintro v w rfl hS; rw [hup]) | (refine WL.calls hS rfl rfl (rget_c t up (hS.slO (by repeat (first | exact Zh | apply List.Mem.tail)) hA) hl) rfl rfl rfl ?_; rintro v w rfl hS; rw [hgt]) | refine WL.index rfl rfl rfl rfl Zw rfl rfl rfl rfl ?_ | refine WL.skip rfl rfl rfl ?_ | ((fail_if_success (refine WL.wanted rfl ?_)); refine WL.guard rfl rfl rfl (fun h => ?_) (fun h => ?_) <;> (try simp only [Ya,Yb,Yc,Yd,Ye,Yf,Yg,Yh,Yi,Yj,Yk,Yl,Ym,Yn,Yo,Yp] at h) <;> (try exact Zx))) | (show WC _ _ _ _ _ _; first | refine WC.seq ?_ | refine WC.region ?_ | refine WC.block ?_ | refine WC.skip ?_ | refine WC.ret ?_ | refine WC.condF rfl Zr ?_ | refine WC.condT rfl (decide_eq_true Zw) ?_) | refine seqQ_n ?_ | refine seqQ_r ?_ | refine blkQ_r ?_ | refine rndQ_r ?_)
     exact fin1r rfl rfl ⟨hS.upd, rfl⟩
  obtain ⟨pb, po, hpe, h1, hF2, hr2⟩ := hprev h0
  cases hpe
  cases hless : Op.bytesLess t[i - 1].path t[i].path with
  |false =>
   rw [hfail (.inr (.inr (.inr (.inl ⟨h0, hless⟩))))]
   generalize t[i] = e at *
   generalize t[i - 1] = q at *
   obtain ⟨path, kind, data⟩ := e
   dsimp only at hcp hwb hup hpl
   obtain ⟨qpath, qkind, qdata⟩ := q
   have hk0 : ¬ kind = 0 := hk0
   have hless : Op.bytesLess qpath path = false := hless
   clear hfail hgood hprev hq
   repeat' (first | (show WL _ _ _ _ _ _ _; first | refine WL.pure rfl rfl rfl rfl ?_ | refine WL.nil ?_ | refine WL.sub rfl rfl rfl Zo rfl rfl rfl ?_ | (refine WL.load hS rfl rfl (LdOk.snap (off := 0) hF hrr (by repeat (first | exact Zh | apply List.Mem.tail)) rfl) rfl rfl rfl ?_) | (refine WL.load hS rfl rfl (LdOk.snap (off := 1) hF hrr (by repeat (first | exact Zh | apply List.Mem.tail)) rfl) rfl rfl rfl ?_) | (refine WL.calls hS rfl rfl (rcheck_c path 5 _ Zo) rfl rfl rfl ?_; rintro v w rfl hS; rw [hcp]) | (refine WL.calls hS rfl rfl (rwhole_c kind data _) rfl rfl rfl ?_; rintro v w rfl hS; rw [hwb]) | (refine WL.index (j := i - 1) rfl rfl rfl (vint (show ((i : Nat) : Int) - 1 = ((i - 1 : Nat) : Int) by omega)) Zo rfl rfl rfl rfl ?_) | (refine WL.load hS rfl rfl (LdOk.snap (off := 0) hF2 hr2 (by repeat (first | exact Zh | apply List.Mem.tail)) rfl) rfl rfl rfl ?_) | refine WL.index rfl rfl rfl rfl Zw rfl rfl rfl rfl ?_ | ((fail_if_success (refine WL.wanted rfl ?_)); refine WL.guard rfl rfl rfl (fun h => ?_) (fun h => ?_) <;> (try simp only [Ya,Yb,Yc,Yd,Ye,Yf,Yg,Yh,Yi,Yj,Yk,Yl,Ym,Yn,Yo,Yp] at h) <;> (try exact Zx))) | (show WC _ _ _ _ _ _; first | refine WC.condT rfl (by first | (simp [hless]; done) | fail) ?_ | refine WC.seq ?_ | refine WC.region ?_ | refine WC.block ?_ | refine WC.skip ?_ | refine WC.ret ?_ | refine WC.condT rfl (decide_eq_true Zw) ?_) | refine seqQ_n ?_ | refine seqQ_r ?_ | refine blkQ_r ?_ | refine rndQ_r ?_)
   exact fin1r rfl rfl ⟨hS.upd, rfl⟩
  |true =>
   have hg2 := hgood rfl rfl hk0 (fun _ => hless)
   have hf2 := fun h => hfail (.inr (.inr (.inr (.inr h))))
   generalize t[i] = e at *
   generalize t[i - 1] = q at *
   obtain ⟨path, kind, data⟩ := e
   dsimp only at hcp hwb hup hpl
   obtain ⟨qpath, qkind, qdata⟩ := q
   have hk0 : ¬ kind = 0 := hk0
   have hless : Op.bytesLess qpath path = true := hless
   clear hfail hgood hprev hq
   by_cases hu : up = []
   ·have hg3 := hg2 (fun h => absurd hu h)
    subst hu
    clear hg2 hf2
    repeat' (first | (show WL _ _ _ _ _ _ _; first | refine WL.pure rfl rfl rfl rfl ?_ | refine WL.nil ?_ | refine WL.add rfl rfl rfl Zo rfl rfl rfl ?_ | refine WL.sub rfl rfl rfl Zo rfl rfl rfl ?_ | (refine WL.load hS rfl rfl (LdOk.snap (off := 0) hF hrr (by repeat (first | exact Zh | apply List.Mem.tail)) rfl) rfl rfl rfl ?_) | (refine WL.load hS rfl rfl (LdOk.snap (off := 1) hF hrr (by repeat (first | exact Zh | apply List.Mem.tail)) rfl) rfl rfl rfl ?_) | (refine WL.calls hS rfl rfl (rcheck_c path 5 _ Zo) rfl rfl rfl ?_; rintro v w rfl hS; rw [hcp]) | (refine WL.calls hS rfl rfl (rwhole_c kind data _) rfl rfl rfl ?_; rintro v w rfl hS; rw [hwb]) | (refine WL.index (j := i - 1) rfl rfl rfl (vint (show ((i : Nat) : Int) - 1 = ((i - 1 : Nat) : Int) by omega)) Zo rfl rfl rfl rfl ?_) | (refine WL.load hS rfl rfl (LdOk.snap (off := 0) hF2 hr2 (by repeat (first | exact Zh | apply List.Mem.tail)) rfl) rfl rfl rfl ?_) | (refine WL.calls hS rfl rfl (rparent_c path _ Zo) rfl rfl rfl ?_; rintro v w rfl hS; rw [hup]) | refine WL.index rfl rfl rfl rfl Zw rfl rfl rfl rfl ?_ | refine WL.skip rfl rfl rfl ?_ | ((fail_if_success (refine WL.wanted rfl ?_)); refine WL.guard rfl rfl rfl (fun h => ?_) (fun h => ?_) <;> (try simp only [Ya,Yb,Yc,Yd,Ye,Yf,Yg,Yh,Yi,Yj,Yk,Yl,Ym,Yn,Yo,Yp] at h) <;> (try exact Zx))) | (show WC _ _ _ _ _ _; first | refine WC.condF rfl (by first | (simp [hless]; done) | fail) ?_ | refine WC.seq ?_ | refine WC.region ?_ | refine WC.block ?_ | refine WC.skip ?_ | refine WC.condT rfl (decide_eq_true Zw) ?_) | refine seqQ_n ?_ | refine blkQ_n ?_)
    exact rndQ_n (i + 1) ⟨⟨Zo, hg3⟩, hS⟩ (by show t.length - (i + 1) < t.length - i; omega) ⟨vint Zo, trivial⟩ ⟨rfl, trivial⟩
   ·by_cases hgk : gkind = 1
    ·have hg3 := hg2 (fun _ => hgk)
     subst hgk
     clear hg2 hf2
     repeat' (first | (show WL _ _ _ _ _ _ _; first | refine WL.pure rfl rfl rfl rfl ?_ | refine WL.nil ?_ | refine WL.add rfl rfl rfl Zo rfl rfl rfl ?_ | refine WL.sub rfl rfl rfl Zo rfl rfl rfl ?_ | (refine WL.load hS rfl rfl (LdOk.snap (off := 0) hF hrr (by repeat (first | exact Zh | apply List.Mem.tail)) rfl) rfl rfl rfl ?_) | (refine WL.load hS rfl rfl (LdOk.snap (off := 1) hF hrr (by repeat (first | exact Zh | apply List.Mem.tail)) rfl) rfl rfl rfl ?_) | (refine WL.calls hS rfl rfl (rcheck_c path 5 _ Zo) rfl rfl rfl ?_; rintro v w rfl hS; rw [hcp]) | (refine WL.calls hS rfl rfl (rwhole_c kind data _) rfl rfl rfl ?_; rintro v w rfl hS; rw [hwb]) | (refine WL.index (j := i - 1) rfl rfl rfl (vint (show ((i : Nat) : Int) - 1 = ((i - 1 : Nat) : Int) by omega)) Zo rfl rfl rfl rfl ?_) | (refine WL.load hS rfl rfl (LdOk.snap (off := 0) hF2 hr2 (by repeat (first | exact Zh | apply List.Mem.tail)) rfl) rfl rfl rfl ?_) | (refine WL.calls hS rfl rfl (rparent_c path _ Zo) rfl rfl rfl ?_; rintro v w rfl hS; rw [hup]) | (refine WL.calls hS rfl rfl (rget_c t up (hS.slO (by repeat (first | exact Zh | apply List.Mem.tail)) hA) hl) rfl rfl rfl ?_; rintro v w rfl hS; rw [hgt]) | refine WL.index rfl rfl rfl rfl Zw rfl rfl rfl rfl ?_ | ((fail_if_success (refine WL.wanted rfl ?_)); refine WL.guard rfl rfl rfl (fun h => ?_) (fun h => ?_) <;> (try simp only [Ya,Yb,Yc,Yd,Ye,Yf,Yg,Yh,Yi,Yj,Yk,Yl,Ym,Yn,Yo,Yp] at h) <;> (try exact Zx))) | (show WC _ _ _ _ _ _; first | refine WC.condF rfl (by first | (simp [hless]; done) | fail) ?_ | refine WC.seq ?_ | refine WC.region ?_ | refine WC.block ?_ | refine WC.skip ?_ | refine WC.condT rfl (decide_eq_true Zw) ?_) | refine seqQ_n ?_ | refine blkQ_n ?_)
     exact rndQ_n (i + 1) ⟨⟨Zo, hg3⟩, hS⟩ (by show t.length - (i + 1) < t.length - i; omega) ⟨vint Zo, trivial⟩ ⟨rfl, trivial⟩
    ·rw [hf2 ⟨hu, hgk⟩]
     clear hg2 hf2
     repeat' (first | (show WL _ _ _ _ _ _ _; first | refine WL.pure rfl rfl rfl rfl ?_ | refine WL.nil ?_ | refine WL.sub rfl rfl rfl Zo rfl rfl rfl ?_ | (refine WL.load hS rfl rfl (LdOk.snap (off := 0) hF hrr (by repeat (first | exact Zh | apply List.Mem.tail)) rfl) rfl rfl rfl ?_) | (refine WL.load hS rfl rfl (LdOk.snap (off := 1) hF hrr (by repeat (first | exact Zh | apply List.Mem.tail)) rfl) rfl rfl rfl ?_) | (refine WL.calls hS rfl rfl (rcheck_c path 5 _ Zo) rfl rfl rfl ?_; rintro v w rfl hS; rw [hcp]) | (refine WL.calls hS rfl rfl (rwhole_c kind data _) rfl rfl rfl ?_; rintro v w rfl hS; rw [hwb]) | (refine WL.index (j := i - 1) rfl rfl rfl (vint (show ((i : Nat) : Int) - 1 = ((i - 1 : Nat) : Int) by omega)) Zo rfl rfl rfl rfl ?_) | (refine WL.load hS rfl rfl (LdOk.snap (off := 0) hF2 hr2 (by repeat (first | exact Zh | apply List.Mem.tail)) rfl) rfl rfl rfl ?_) | (refine WL.calls hS rfl rfl (rparent_c path _ Zo) rfl rfl rfl ?_; rintro v w rfl hS; rw [hup]) | (refine WL.calls hS rfl rfl (rget_c t up (hS.slO (by repeat (first | exact Zh | apply List.Mem.tail)) hA) hl) rfl rfl rfl ?_; rintro v w rfl hS; rw [hgt]) | refine WL.index rfl rfl rfl rfl Zw rfl rfl rfl rfl ?_ | ((fail_if_success (refine WL.wanted rfl ?_)); refine WL.guard rfl rfl rfl (fun h => ?_) (fun h => ?_) <;> (try simp only [Ya,Yb,Yc,Yd,Ye,Yf,Yg,Yh,Yi,Yj,Yk,Yl,Ym,Yn,Yo,Yp] at h) <;> (try exact Zx))) | (show WC _ _ _ _ _ _; first | refine WC.condF rfl (by first | (simp [hless]; done) | fail) ?_ | refine WC.seq ?_ | refine WC.region ?_ | refine WC.block ?_ | refine WC.skip ?_ | refine WC.ret ?_ | refine WC.condT rfl (decide_eq_true Zw) ?_) | refine seqQ_n ?_ | refine seqQ_r ?_ | refine blkQ_r ?_ | refine rndQ_r ?_)
     exact fin1r rfl rfl ⟨hS.upd, rfl⟩
open Go Go.J Go.RowKit
abbrev aC (A : Option Addr) (c : Nat) (s : List Ac) : Chunk := .own (.slice A s.length c) 167 4 s.length (s.flatMap encAc)
theorem aC_snoc {A : Option Addr} {c : Nat} {s : List Ac} {e : Ac} : Chunk.own (.slice A (s.length + 1) c) 167 4 (s.length + 1) (s.flatMap encAc ++ encAc e) = aC A c (s ++ [e]) := by
 unfold aC
 rw [List.flatMap_append, List.length_append]
 rfl
theorem rem_step (root : Int) (old now : List Ent) {k : Nat} (h : k < old.length) : remA root (old.drop k) now = remA root (old.drop (k + 1)) now ++ if (getT now old[k].path).kind ≠ old[k].kind then [⟨root, old[k].path, 0, []⟩] else [] := by
 unfold remA
 rw [List.drop_eq_getElem_cons h, List.reverse_cons, List.filter_append, List.map_append]
 congr 1
 by_cases hk : (getT now old[k].path).kind = old[k].kind
 ·rw [if_neg (fun hh => hh hk), List.filter_cons_of_neg (by simp [hk])]; rfl
 ·rw [if_pos hk, List.filter_cons_of_pos (by simp [hk])]; rfl
theorem put_step (root : Int) (old now : List Ent) {k : Nat} (h : k < now.length) : putA root old (now.take (k + 1)) = putA root old (now.take k) ++ if nodeT old now[k].path ≠ (now[k].kind, now[k].data) then [⟨root, now[k].path, now[k].kind, now[k].data⟩] else [] := by
 unfold putA
 rw [List.take_succ_eq_append_getElem h, List.filter_append, List.map_append]
 congr 1
 by_cases hk : nodeT old now[k].path = (now[k].kind, now[k].data)
 ·rw [if_neg (fun hh => hh hk), List.filter_cons_of_neg (by simp [hk])]; rfl
 ·rw [if_pos hk, List.filter_cons_of_pos (by simp [hk])]; rfl
theorem putA_len (root : Int) (old now : List Ent) : (putA root old now).length ≤ now.length := by unfold putA; rw [List.length_map]; exact List.length_filter_le _ _
theorem remA_len (root : Int) (old now : List Ent) : (remA root old now).length ≤ old.length := by
 unfold remA
 rw [List.length_map]
 refine Nat.le_trans (List.length_filter_le _ _) ?_
 rw [List.length_reverse]; exact Nat.le_refl _
theorem ractions_c (root : Int) (old now : List Ent) {A B : Option Addr} {ca cb : Nat} {w0 : World} (hA : SlAt cEnt (Old w0) w0 A old) (hB : SlAt cEnt (Old w0) w0 B now) (hl : old.length ≤ 100000) (hlb : now.length ≤ 100000) :
  Cal Tryz.prog 51 [.int .i64 root, .slice A old.length ca, .slice B now.length cb] w0 (fun v w' => Upd [] w0 w' ∧ ∃ A' c', v = .slice A' (actE root old now).length c' ∧ New w0 w' (aC A' c' (actE root old now))) := by
 refine Cal.mk' Zk Tryz.func51 rfl rfl fun hS => ?_
 replace hS := hS.nilRow 167 4
 repeat' (first | (show WL _ _ _ _ _ _ _; first | refine WL.pure rfl rfl rfl rfl ?_ | refine WL.nil ?_ | refine WL.sub rfl rfl rfl Zo rfl rfl rfl ?_) | (show WC _ _ _ _ _ _; first | refine WC.seq ?_ | refine WC.region ?_ | refine WC.block ?_) | refine seqQ_n ?_)
 refine WC.loop (σ := Nat × List Ac × Option Addr × Nat) [0, 1, 2] (fun (k, out, AO, oc) => [(7, .slice AO out.length oc), (8, .int .i64 ((k : Int) - 1))])
  (fun (k, out, AO, oc) w => (k ≤ old.length ∧ out = remA root (old.drop k) now) ∧ St w0 [] w [aC AO oc out] [⟨w0, Old w0⟩]) (fun (k, _) => k) (old.length, [], none, 0)
  ⟨⟨Nat.le_refl _, by rw [List.drop_of_length_le (Nat.le_refl _)]; rfl⟩, hS⟩ ⟨rfl, rfl, trivial⟩ ?_
 clear hS
 rintro ⟨k, out, AO, oc⟩ g w ⟨⟨hk, ho⟩, hS⟩
 show WC _ _ _ (lf _ [(7, .slice AO out.length oc), (8, .int .i64 ((k : Int) - 1))] _ _) _ _
 have hol : out.length ≤ 100000 := by
  rw [ho]
  refine Nat.le_trans (remA_len _ _ _) ?_
  rw [List.length_drop]; omega
 rcases k with _ | k
 ·rw [List.drop_zero] at ho
  repeat' (first | (show WL _ _ _ _ _ _ _; first | refine WL.pure rfl rfl rfl rfl ?_ | refine WL.nil ?_) | (show WC _ _ _ _ _ _; first | refine WC.seq ?_ | refine WC.region ?_ | refine WC.block ?_ | refine WC.exit ?_ | refine WC.condF rfl Zd ?_) | refine seqQ_n ?_ | refine seqQ_x ?_ | refine blkQ_hit rfl ?_ | refine rndQ_x ?_)
  refine WC.loop (σ := Nat × List Ac × Option Addr × Nat) [0, 1, 2] (fun (k, out, AO, oc) => [(7, .slice AO out.length oc), (9, .int .i64 (k : Int))])
   (fun (k, out, AO, oc) w => (k ≤ now.length ∧ out = remA root old now ++ putA root old (now.take k)) ∧ St w0 [] w [aC AO oc out] [⟨w0, Old w0⟩]) (fun (k, _) => now.length - k) (0, out, AO, oc)
   ⟨⟨Nat.zero_le _, by rw [ho]; unfold putA; simp⟩, hS⟩ ⟨rfl, rfl, trivial⟩ ?_
  clear hS ho hol
  rintro ⟨k, out, AO, oc⟩ g w ⟨⟨hk, ho⟩, hS⟩
  show WC _ _ _ (lf _ [(7, .slice AO out.length oc), (9, .int .i64 (k : Int))] _ _) _ _
  have hol : out.length ≤ 200000 := by
   rw [ho, List.length_append]
   have h1 := remA_len root old now
   have h2 := putA_len root old (now.take k)
   rw [List.length_take] at h2
   omega
  by_cases hlt : k < now.length
  ·obtain ⟨eb, eo, es, rfl, hF, hrr, hes⟩ := hB.at_ hlt
   have hes : es = encEnt now[k] := hes
   subst hes
   have hrr : w0.rangeAt eb (eo + k * 3) (encEnt now[k]) := hrr
   have hst := put_step root old now hlt
   generalize now[k] = x at *
   obtain ⟨xp, xk, xd⟩ := x
   dsimp only at hst
   obtain ⟨gp, hgp⟩ : ∃ gp, getT old xp = gp := ⟨_, rfl⟩
   have hnode : nodeT old xp = (gp.kind, gp.data) := by unfold nodeT; rw [hgp]
   rw [hnode] at hst
   obtain ⟨g1, gk, gd⟩ := gp
   dsimp only at hst
   have hrg := fun (w : World) (h : SlAt cEnt (Old w) w A old) => rget_c (cap := ca) old xp h Zo
   rw [hgp] at hrg
   by_cases hn : gk = xk ∧ gd = xd
   ·obtain ⟨rfl, rfl⟩ := hn
    rw [if_neg (fun h => h rfl), List.append_nil] at hst
    repeat' (first | (show WL _ _ _ _ _ _ _; first | refine WL.pure rfl rfl rfl rfl ?_ | refine WL.nil ?_ | refine WL.add rfl rfl rfl Zo rfl rfl rfl ?_) | (show WC _ _ _ _ _ _; first | refine WC.seq ?_ | refine WC.region ?_ | refine WC.block ?_ | refine WC.skip ?_ | (show WC _ _ (Code.region _ (List.toArray [_, _, _, _, _, _, _, _, _, _, _, _, _]) true) _ _ _; refine WC.drawS hS [0,1,2,3,4,5,7,8,9,10,11,12] [0,1,2,3,4,5,7,8,9,10,11,6,12] Zk Zk ?_; clear hS; intro w hS hM) | refine WC.condF rfl Zd ?_ | refine WC.condT rfl (decide_eq_true Zw) ?_) | (show WD _ _ _ _ _ _ _ _ _; first | refine WD.pure rfl rfl rfl rfl rfl ?_ | refine WD.nil ?_ | (refine WD.load rfl rfl (LdOk.snap0 hF hrr (by repeat (first | exact Zh | apply List.Mem.tail)) rfl) rfl rfl rfl rfl ?_) | (refine WD.load rfl rfl (LdOk.snap (off := 1) hF hrr (by repeat (first | exact Zh | apply List.Mem.tail)) rfl) rfl rfl rfl rfl ?_) | (refine WD.calls hS hM rfl rfl (hrg _ (hS.slO (by repeat (first | exact Zh | apply List.Mem.tail)) hA)) rfl rfl rfl rfl rfl ?_; clear hS; rintro v w rfl hS) | (refine WD.neS rfl rfl rfl (show some (decide (gk = gk) && decide (gd = gd)) = some true by simp) Zk rfl rfl rfl rfl ?_) | refine WD.index rfl rfl rfl rfl Zw rfl rfl rfl rfl rfl ?_) | refine seqQ_n ?_ | refine blkQ_n ?_)
    exact rndQ_n (k + 1, out, AO, oc) ⟨⟨hlt, by rw [hst]; exact ho⟩, hS.droplast2 Pu⟩ (by show now.length - (k + 1) < now.length - k; omega) ⟨rfl, vint Zo, trivial⟩ ⟨rfl, rfl, rfl, trivial⟩
   ·have hne : (gk, gd) ≠ (xk, xd) := fun e => hn ⟨congrArg Prod.fst e, congrArg Prod.snd e⟩
    rw [if_pos hne] at hst
    have hdec : (decide (gk = xk) && decide (gd = xd)) = false := by
     cases h : (decide (gk = xk) && decide (gd = xd)) with
     |false => rfl
     |true =>
      rw [Bool.and_eq_true] at h
      exact absurd ⟨of_decide_eq_true h.1, of_decide_eq_true h.2⟩ hn
    clear hn hne
    repeat' (first | (show WL _ _ _ _ _ _ _; first | refine WL.pure rfl rfl rfl rfl ?_ | refine WL.nil ?_ | refine WL.add rfl rfl rfl Zo rfl rfl rfl ?_) | (show WC _ _ _ _ _ _; first | refine WC.seq ?_ | refine WC.region ?_ | refine WC.block ?_ | refine WC.skip ?_ | (show WC _ _ (Code.region _ (List.toArray [_, _, _, _, _, _, _, _, _, _, _, _, _]) true) _ _ _; refine WC.drawS hS [0,1,2,3,4,5,7,8,9,10,11,12] [0,1,2,3,4,5,7,8,9,10,11,6,12] Zk Zk ?_; clear hS; intro w hS hM) | (show WC _ _ (Code.region _ (List.toArray [_, _, _, _, _, _, _, _, _, _, _, _, _, _, _, _]) true) _ _ _; refine WC.drawL [aC AO oc out] hS Pu [0,1,2,3,4,5,6,7,8,9,10,11,12,15] [0,1,2,3,4,5,6,7,8,9,10,11,12,13,14,15] Zk Zk ?_; clear hS; intro w hS hM) | refine WC.condT rfl Zd ?_ | refine WC.condT rfl (decide_eq_true Zw) ?_) | (show WD _ _ _ _ _ _ _ _ _; first | refine WD.pure rfl rfl rfl rfl rfl ?_ | refine WD.nil ?_ | (refine WD.load rfl rfl (LdOk.snap0 hF hrr (by repeat (first | exact Zh | apply List.Mem.tail)) rfl) rfl rfl rfl rfl ?_) | (refine WD.load rfl rfl (LdOk.snap (off := 1) hF hrr (by repeat (first | exact Zh | apply List.Mem.tail)) rfl) rfl rfl rfl rfl ?_) | (refine WD.calls hS hM rfl rfl (hrg _ (hS.slO (by repeat (first | exact Zh | apply List.Mem.tail)) hA)) rfl rfl rfl rfl rfl ?_; clear hS; rintro v w rfl hS) | (refine WD.neS rfl rfl rfl (show some (decide (gk = xk) && decide (gd = xd)) = some false from congrArg some hdec) Zk rfl rfl rfl rfl ?_) | (refine WD.slit (t := 88) hS hM rfl rfl rfl rfl rfl rfl rfl ?_; clear hS hM; intro w ob hS hM) | (refine WD.app (n := out.length) (size := 4) hS Pl1 (More.chunk (.refl _ _) _) rfl rfl rfl rfl (RdOk.box (by repeat (first | exact Zh | apply List.Mem.tail))) rfl rfl Zo rfl rfl rfl rfl rfl ?_; clear hS hM; intro A3 cap3 w hS hM) | refine WD.index rfl rfl rfl rfl Zw rfl rfl rfl rfl rfl ?_ | refine WD.build rfl rfl rfl rfl rfl rfl ?_) | refine seqQ_n ?_ | refine blkQ_n ?_)
    have hS := hS.droplast2 (D := [.own (.slice A3 (out.length + 1) cap3) 167 4 (out.length + 1) (out.flatMap encAc ++ encAc ⟨root, xp, xk, xd⟩)]) Pu
    rw [aC_snoc] at hS
    exact rndQ_n (k + 1, out ++ [⟨root, xp, xk, xd⟩], A3, cap3) ⟨⟨hlt, by rw [hst, ← List.append_assoc, ho]⟩, hS⟩ (by show now.length - (k + 1) < now.length - k; omega) ⟨by rw [List.length_append]; rfl, vint Zo, trivial⟩ ⟨rfl, rfl, rfl, trivial⟩
  ·have e : k = now.length := Zo
   subst e
   rw [List.take_length] at ho
   have ho : out = actE root old now := ho
   subst ho
   repeat' (first | (show WL _ _ _ _ _ _ _; first | refine WL.pure rfl rfl rfl rfl ?_ | refine WL.nil ?_) | (show WC _ _ _ _ _ _; first | refine WC.seq ?_ | refine WC.region ?_ | refine WC.exit ?_ | refine WC.ret ?_ | refine WC.condF rfl (decide_eq_false Zw) ?_) | refine seqQ_n ?_ | refine seqQ_x ?_ | refine blkQ_hit rfl ?_ | refine rndQ_x ?_)
   exact fin1r rfl rfl ⟨hS.upd, AO, oc, rfl, hS.newOf Zh⟩
 ·have e : (((k + 1 : Nat) : Int) - 1) = (k : Int) := Zo
  rw [e]
  have hlt : k < old.length := hk
  obtain ⟨eb, eo, es, rfl, hF, hrr, hes⟩ := hA.at_ hlt
  have hes : es = encEnt old[k] := hes
  subst hes
  have hrr : w0.rangeAt eb (eo + k * 3) (encEnt old[k]) := hrr
  have hst := rem_step root old now hlt
  generalize old[k] = x at *
  obtain ⟨xp, xk, xd⟩ := x
  dsimp only at hst
  have hrg := fun (w : World) (h : SlAt cEnt (Old w) w B now) => rget_c (cap := cb) now xp h Zo
  obtain ⟨gp, hgp⟩ : ∃ gp, getT now xp = gp := ⟨_, rfl⟩
  rw [hgp] at hst hrg
  obtain ⟨g1, gk, gd⟩ := gp
  dsimp only at hst
  by_cases hn : gk = xk
  ·subst hn
   rw [if_neg (fun h => h rfl), List.append_nil] at hst
   repeat' (first | (show WL _ _ _ _ _ _ _; first | refine WL.pure rfl rfl rfl rfl ?_ | refine WL.nil ?_ | refine WL.sub rfl rfl rfl Zo rfl rfl rfl ?_) | (show WC _ _ _ _ _ _; first | refine WC.seq ?_ | refine WC.region ?_ | refine WC.block ?_ | refine WC.skip ?_ | (show WC _ _ (Code.region _ (List.toArray [_, _, _, _, _, _, _, _, _, _, _, _, _, _, _]) true) _ _ _; refine WC.drawS hS [0,1,2,3,4,5,7,8,9,10,11,12,13,14] [0,1,2,3,4,5,8,9,10,11,12,13,6,7,14] Zk Zk ?_; clear hS; intro w hS hM) | refine WC.condT rfl (decide_eq_true Zw) ?_ | refine WC.condF rfl Zs ?_) | (show WD _ _ _ _ _ _ _ _ _; first | refine WD.pure rfl rfl rfl rfl rfl ?_ | refine WD.nil ?_ | (refine WD.load rfl rfl (LdOk.snap0 hF hrr (by repeat (first | exact Zh | apply List.Mem.tail)) rfl) rfl rfl rfl rfl ?_) | (refine WD.load rfl rfl (LdOk.snap (off := 1) hF hrr (by repeat (first | exact Zh | apply List.Mem.tail)) rfl) rfl rfl rfl rfl ?_) | (refine WD.calls hS hM rfl rfl (hrg _ (hS.slO (by repeat (first | exact Zh | apply List.Mem.tail)) hB)) rfl rfl rfl rfl rfl ?_; clear hS; rintro v w rfl hS) | refine WD.index rfl rfl rfl rfl Zw rfl rfl rfl rfl rfl ?_) | refine seqQ_n ?_ | refine blkQ_n ?_)
   exact rndQ_n (k, out, AO, oc) ⟨⟨Zo, by rw [hst]; exact ho⟩, hS.droplast2 Pu⟩ (Nat.lt_succ_self k) ⟨rfl, vint Zo, trivial⟩ ⟨rfl, rfl, rfl, trivial⟩
  ·rw [if_pos hn] at hst
   repeat' (first | (show WL _ _ _ _ _ _ _; first | refine WL.pure rfl rfl rfl rfl ?_ | refine WL.nil ?_ | refine WL.sub rfl rfl rfl Zo rfl rfl rfl ?_ | (refine WL.load hS rfl rfl (LdOk.snap0 hF hrr (by repeat (first | exact Zh | apply List.Mem.tail)) rfl) rfl rfl rfl ?_) | (refine WL.slit (t := 88) hS rfl rfl rfl rfl rfl ?_; intro w ob hS) | (refine WL.app (n := out.length) (size := 4) hS rfl rfl rfl rfl (RdOk.box (by repeat (first | exact Zh | apply List.Mem.tail))) rfl rfl (fun A cap => Rp) Zo rfl rfl rfl ?_; intro A3 cap3 w hS) | refine WL.index rfl rfl rfl rfl Zw rfl rfl rfl rfl ?_ | refine WL.build rfl rfl rfl rfl rfl ?_) | (show WC _ _ _ _ _ _; first | refine WC.seq ?_ | refine WC.region ?_ | refine WC.block ?_ | refine WC.skip ?_ | (show WC _ _ (Code.region _ (List.toArray [_, _, _, _, _, _, _, _, _, _, _, _, _, _, _]) true) _ _ _; refine WC.drawS hS [0,1,2,3,4,5,7,8,9,10,11,12,13,14] [0,1,2,3,4,5,8,9,10,11,12,13,6,7,14] Zk Zk ?_; clear hS; intro w hS hM) | refine WC.condT rfl (decide_eq_true Zw) ?_) | (show WD _ _ _ _ _ _ _ _ _; first | refine WD.pure rfl rfl rfl rfl rfl ?_ | refine WD.nil ?_ | (refine WD.load rfl rfl (LdOk.snap0 hF hrr (by repeat (first | exact Zh | apply List.Mem.tail)) rfl) rfl rfl rfl rfl ?_) | (refine WD.load rfl rfl (LdOk.snap (off := 1) hF hrr (by repeat (first | exact Zh | apply List.Mem.tail)) rfl) rfl rfl rfl rfl ?_) | (refine WD.calls hS hM rfl rfl (hrg _ (hS.slO (by repeat (first | exact Zh | apply List.Mem.tail)) hB)) rfl rfl rfl rfl rfl ?_; clear hS; rintro v w rfl hS) | refine WD.index rfl rfl rfl rfl Zw rfl rfl rfl rfl rfl ?_) | refine seqQ_n ?_ | refine blkQ_n ?_)
   have hS := hS.droplast2 (D := [.own (.slice A3 (out.length + 1) cap3) 167 4 (out.length + 1) (out.flatMap encAc ++ encAc ⟨root, xp, 0, []⟩)]) Pu
   rw [aC_snoc] at hS
   exact rndQ_n (k, out ++ [⟨root, xp, 0, []⟩], A3, cap3) ⟨⟨Zo, by rw [hst, ho]⟩, hS⟩ (Nat.lt_succ_self k) ⟨by rw [List.length_append]; rfl, vint Zo, trivial⟩ ⟨rfl, rfl, rfl, trivial⟩
open Go Go.J Go.RowKit
def rootsOk (l : List Ac) : Bool := l.all fun a => decide (rootE a.root ≠ [])
def applyA (D : Dk) (l : List Ac) : Int × Dk := if rootsOk (finalE l) = true then runF D ((finalE l).map fsA) else (1, D)
structure AcOk (a : Ac) : Prop where
 lo : -9223372036854775808 ≤ a.root
 hi : a.root ≤ 9223372036854775807
 path : a.path.length ≤ 1000000
 data : a.data.length ≤ 1099511627776
theorem putG_mem {l : List Ac} {x z : Ac} (h : z ∈ putG keyA ltA l x) : z = x ∨ z ∈ l := (mem_putG actO h).imp id fun h => h.1
theorem final_mem {l : List Ac} {a : Ac} (h : a ∈ finalE l) : a ∈ l := by
 unfold finalE at h
 have : ∀ (l r : List Ac), a ∈ l.foldl (putG keyA ltA) r → a ∈ l ∨ a ∈ r := by
  intro l
  induction l with
  |nil => exact fun r h => .inr h
  |cons x l ih =>
   intro r h
   rcases ih _ h with h | h
   ·exact .inl (List.mem_cons_of_mem _ h)
   ·rcases putG_mem h with h | h
    ·exact .inl (by rw [h]; exact List.mem_cons_self ..)
    ·exact .inr h
 rcases this l [] h with h | h
 ·exact h
 ·cases h
theorem rootE_len (r : Int) : (rootE r).length ≤ 3 := by
 unfold rootE
 split
 ·decide
 ·split <;> simp
theorem fsA_len {a : Ac} (h : AcOk a) : (fsA a).p.length ≤ 1099511627 := by
 have h1 := rootE_len a.root
 have h2 := h.path
 show (rootE a.root ++ 47 :: a.path).length ≤ _
 rw [List.length_append, List.length_cons]; omega
def downA (F : List Ac) (D : Dk) (k : Nat) : Int × Dk := ((F.map fsA).drop k).foldr (fun a s => rmS s a) (0, D)
theorem downA_all (F : List Ac) (D : Dk) : downA F D 0 = rmF D (F.map fsA) := by unfold downA rmF; rw [List.foldl_reverse]; rfl
theorem downA_end (F : List Ac) (D : Dk) : downA F D F.length = (0, D) := by
 unfold downA
 rw [List.drop_of_length_le (by simp)]
 rfl
theorem downA_step (F : List Ac) (D : Dk) {k : Nat} (h : k < F.length) : downA F D k = rmS (downA F D (k + 1)) (fsA F[k]) := by
 unfold downA
 rw [List.drop_eq_getElem_cons (by simpa using h), List.foldr_cons, List.getElem_map]
theorem rmS_stick {s : Int × Dk} (h : s.1 ≠ 0) (l : List Fs) : l.foldr (fun a s => rmS s a) s = s := by
 induction l with
 |nil => rfl
 |cons a l ih =>
  rw [List.foldr_cons, ih]
  unfold rmS
  rw [if_pos h]
theorem layS_stick {s : Int × Dk} (h : s.1 ≠ 0) (l : List Fs) : l.foldl layS s = s := by
 induction l with
 |nil => rfl
 |cons a l ih =>
  have e : layS s a = s := by unfold layS; rw [if_pos h]
  rw [List.foldl_cons, e, ih]
theorem downA_fail (F : List Ac) (D : Dk) {k : Nat} (hk : k ≤ F.length) (h : (downA F D k).1 ≠ 0) : runF D (F.map fsA) = downA F D k := by
 have e : rmF D (F.map fsA) = downA F D k := by
  rw [← downA_all]
  have : (F.map fsA).foldr (fun a s => rmS s a) (0, D) = ((F.map fsA).take k).foldr (fun a s => rmS s a) (((F.map fsA).drop k).foldr (fun a s => rmS s a) (0, D)) := by
   rw [← List.foldr_append, List.take_append_drop]
  show ((F.map fsA).drop 0).foldr _ _ = _
  rw [List.drop_zero, this]
  exact rmS_stick h _
 unfold runF
 rw [e]
 exact layS_stick h _
def upA (F : List Ac) (D : Dk) (k : Nat) : Int × Dk := ((F.map fsA).take k).foldl layS (rmF D (F.map fsA))
theorem upA_all (F : List Ac) (D : Dk) : upA F D F.length = runF D (F.map fsA) := by
 unfold upA runF
 rw [List.take_of_length_le (by simp)]
theorem upA_zero (F : List Ac) (D : Dk) : upA F D 0 = rmF D (F.map fsA) := rfl
theorem upA_step (F : List Ac) (D : Dk) {k : Nat} (h : k < F.length) : upA F D (k + 1) = layS (upA F D k) (fsA F[k]) := by
 unfold upA
 rw [List.take_succ_eq_append_getElem (by simpa using h), List.foldl_append, List.getElem_map]
 rfl
theorem upA_fail (F : List Ac) (D : Dk) {k : Nat} (h : (upA F D k).1 ≠ 0) : runF D (F.map fsA) = upA F D k := by
 have : runF D (F.map fsA) = ((F.map fsA).drop k).foldl layS (upA F D k) := by
  unfold runF upA
  rw [← List.foldl_append, List.take_append_drop]
 rw [this]
 exact layS_stick h _
theorem layS_ok {s : Int × Dk} {a : Ac} (h : s.1 = 0) : layS s (fsA a) = layN s.2 (fsA a).p a.kind a.data := by
 obtain ⟨e, D⟩ := s
 have h : e = 0 := h
 subst h
 unfold layS layN
 rw [if_neg (fun h => h rfl)]
 rfl
section
variable {w w0 : World} {M : List Nat} {H : List Chunk} {Z : List Snap} {rb : Nat} {e0 e : Int} {R : Ending → World → Prop} {tmps : Array Value}
theorem ap_res {e0 : Int} (hS : St w0 M w (.box rb 30 [.int .i64 e0] :: H) Z) (ht : tmps.getD 4 undef = .pointer (some ⟨rb, 0, none⟩)) : (results Tryz.f50 tmps).run Tryz.prog w = .ok (.int .i64 e0) w := by
 have h2 := hS.loads (P := Tryz.prog) (ty := 30) (a := ⟨rb, 0, none⟩) (v := .int .i64 e0) (LdOk.box (.head _) rfl)
 have h3 : Tryz.f50.results = #[.cell 4 30] := rfl
 simp only [Array.getD_eq_getD_getElem?] at ht
 simp [results, h3, ht, h2, asAddr, Sem.run_bind]
theorem ap_inv : (invoke (.fn (.func 110) ⟨[.pointer (some ⟨rb, 0, none⟩)]⟩) #[]).run Tryz.prog w = .ok (.enter 110 ([.pointer (some ⟨rb, 0, none⟩)] : List Value).toArray) w :=
 run_callFunc Zk _
theorem ap_ret (hS : St w0 M w (.box rb 30 [.int .i64 e0] :: H) Z) (ht : tmps.getD 4 undef = .pointer (some ⟨rb, 0, none⟩)) (hR : ∀ w', St w0 M w' (.box rb 30 [.int .i64 e0] :: H) Z → R (.returned (.int .i64 e0)) w') :
  Leaves Tryz.prog Tryz.f50 tmps R [⟨.fn (.func 110) ⟨[.pointer (some ⟨rb, 0, none⟩)]⟩, #[]⟩] .returning w := by
 have hS' : St w0 M w ([.box rb 30 [.int .i64 e0]] ++ H) Z := hS
 exact leaves_ret ap_inv (aprec_ret hS'.inL) fun w' hm => ⟨_, ap_res (hS'.mutL hm) ht, hR w' (hS'.mutL hm)⟩
theorem ap_pan (hS : St w0 M w (.box rb 30 [.int .i64 e0] :: H) Z) (ht : tmps.getD 4 undef = .pointer (some ⟨rb, 0, none⟩)) (hR : ∀ w', St w0 M w' (.box rb 30 [.int .i64 e] :: H) Z → R (.returned (.int .i64 e)) w') :
  Leaves Tryz.prog Tryz.f50 tmps R [⟨.fn (.func 110) ⟨[.pointer (some ⟨rb, 0, none⟩)]⟩, #[]⟩] (.panicking (haltE e)) w := by
 have hS' : St w0 M w ([.box rb 30 [.int .i64 e0]] ++ H) Z := hS
 exact leaves_pan ap_inv (aprec_pan hS'.inL) fun w' hm => ⟨_, ap_res (hS'.mutL hm) ht, hR w' (hS'.mutL hm)⟩
end
theorem aapply_c {q mb lb n : Nat} {D : Dk} {A : Option Addr} {cap : Nat} (l : List Ac) {w0 : World} (hI : InL w0 [dkC q mb lb D]) (hA : SlAt cAc (fun b => b < w0.heap.size ∧ b ∉ fps [dkC q mb lb D]) w0 A l) (hl : l.length ≤ 100000) (hok : ∀ a ∈ l, AcOk a) (hB : DkB n D) (hn : n ≤ 500000) (hp : PowI w0 (fps [dkC q mb lb D])) :
  Cal Tryz.prog 50 [.pointer (some ⟨q, 0, none⟩), .slice A l.length cap] w0 (fun v w' => v = .int .i64 (applyA D l).1 ∧ MutL w0 w' [dkC q mb lb D] [dkC q mb lb (applyA D l).2]) := by
 refine ⟨Zk, callsR (args := [.pointer (some ⟨q, 0, none⟩), .slice A l.length cap]) Tryz.func50 rfl rfl ?_⟩
 have hS := St.initL hI
 refine WR.seq (Q0 := noQ) rfl noQ_ok ?_
 repeat' (first | (show WL _ _ _ _ _ _ _; first | refine WL.nil ?_ | (refine WL.box hS rfl rfl rfl rfl rfl ?_; intro w b hS) | (refine WL.alloc hS rfl rfl rfl rfl rfl rfl ?_; intro w b hS)) | (show WC _ _ _ _ _ _; first | refine WC.region ?_) | fail)
 show WR _ _ _ _ _ _
 obtain ⟨rb, hrb⟩ : ∃ rb, rb = b := ⟨_, rfl⟩
 subst hrb
 obtain ⟨tb, htb⟩ : ∃ tb, tb = b := ⟨_, rfl⟩
 subst htb
 refine WR.defer (n := 1) (z := .tmp 14) 5 rfl rfl rfl rfl rfl ?_
 show WL _ _ _ [_] _ _ _
 repeat' (first | (show WL _ _ _ _ _ _ _; first | refine WL.pure rfl rfl rfl rfl ?_ | refine WL.nil ?_) | fail)
 refine ⟨.func 110, ⟨[.pointer (some ⟨rb, 0, none⟩)]⟩, rfl, ?_⟩
 refine WR.seq (Q0 := endQ0 _ _ _ [] [⟨.fn (.func 110) ⟨[.pointer (some ⟨rb, 0, none⟩)]⟩, #[]⟩] _) rfl (endQ0_ok rfl) ?_
 repeat' (first | (show WL _ _ _ _ _ _ _; first | refine WL.pure rfl rfl rfl rfl ?_ | refine WL.nil ?_ | refine WL.load hS rfl rfl (LdOk.box (by repeat (first | exact Zh | apply List.Mem.tail)) rfl) rfl rfl rfl ?_) | (show WC _ _ _ _ _ _; first | refine WC.seq ?_ | refine WC.region ?_ | refine WC.skip ?_ | refine WC.condF rfl Zr ?_) | refine seqQ_n ?_)
 show WR _ _ _ _ _ _
 refine WR.seq (Q0 := endQ0 _ _ _ [] [⟨.fn (.func 110) ⟨[.pointer (some ⟨rb, 0, none⟩)]⟩, #[]⟩] _) rfl (endQ0_ok rfl) ?_
 repeat' (first | (show WL _ _ _ _ _ _ _; first | refine WL.pure rfl rfl rfl rfl ?_ | refine WL.nil ?_ | (refine WL.callL (D := []) hS Pu rfl rfl (fun hI => final_c l (hS.slO (by repeat (first | exact Zh | apply List.Mem.tail)) hA) Zo) rfl rfl rfl ?_; rintro v w ⟨A2, c2, rfl, hm⟩ hS; replace hS := hS _ hm; clear hm)) | (show WC _ _ _ _ _ _; first | refine WC.region ?_) | fail)
 show WR _ _ _ _ _ _
 have hFok : ∀ a ∈ finalE l, AcOk a := fun a ha => hok a (final_mem ha)
 have hFl := Nat.le_trans (final_len l) hl
 obtain ⟨F, hF⟩ : ∃ F, F = finalE l := ⟨_, rfl⟩
 have happ : applyA D l = if rootsOk F = true then runF D (F.map fsA) else (1, D) := by rw [hF]; rfl
 rw [happ]
 rw [← hF] at hS hFok hFl ⊢
 clear happ hA hok hl
 refine WR.seq (Q0 := endQ0 _ _ _ [] [⟨.fn (.func 110) ⟨[.pointer (some ⟨rb, 0, none⟩)]⟩, #[]⟩] _) rfl (endQ0_ok rfl) ?_
 repeat' (first | (show WL _ _ _ _ _ _ _; first | refine WL.pure rfl rfl rfl rfl ?_ | refine WL.nil ?_) | (show WC _ _ _ _ _ _; first | refine WC.seq ?_ | refine WC.region ?_ | refine WC.block ?_) | refine seqQ_n ?_)
 refine WC.loop (σ := Nat) [2, 4, 5, 19, 20] (fun k => [(21, .int .i64 (k : Int))])
  (fun k w => (k ≤ F.length ∧ ∀ j (h : j < F.length), j < k → rootE F[j].root ≠ []) ∧ St w0 (fps [dkC q mb lb D]) w [.own (.slice A2 F.length c2) 167 4 F.length (F.flatMap encAc), .box rb 30 [.int .i64 0], .box tb 23 [.pointer (some ⟨q, 0, none⟩)], dkC q mb lb D] [⟨w0, fun b => b < w0.heap.size ∧ b ∉ fps [dkC q mb lb D]⟩])
  (fun k => F.length - k) 0 ⟨⟨Nat.zero_le _, fun _ _ h => absurd h (Nat.not_lt_zero _)⟩, hS⟩ ⟨rfl, trivial⟩ ?_
 clear hS
 rintro k g w ⟨⟨hk, hz⟩, hS⟩
 show WC _ _ _ (lf _ [(21, .int .i64 (k : Int))] _ _) _ _
 by_cases hlt : k < F.length
 ·obtain ⟨g2, o2, rfl⟩ := own_some hS (.head _) Zo
  have hFk := hFok _ (List.getElem_mem hlt)
  have hap := fun (w : World) (ht : powT w) => avolume_c F[k].root w hFk.lo hFk.hi ht
  have hel : F[k]? = some F[k] := List.getElem?_eq_getElem hlt
  by_cases h0 : rootE F[k].root = []
  ·have hno : ¬ rootsOk F = true := fun h => by
    unfold rootsOk at h
    exact of_decide_eq_true (List.all_eq_true.1 h F[k] (List.getElem_mem hlt)) h0
   rw [h0] at hap
   generalize F[k] = x at *
   repeat' (first | (show WL _ _ _ _ _ _ _; first | refine WL.pure rfl rfl rfl rfl ?_ | refine WL.nil ?_ | refine WL.load hS rfl rfl (LdOk.box (by repeat (first | exact Zh | apply List.Mem.tail)) rfl) rfl rfl rfl ?_ | (refine WL.load hS rfl rfl (LdOk.ownElemE encAc_len (by repeat (first | exact Zh | apply List.Mem.tail)) hel rfl rfl) rfl rfl rfl ?_) | (refine WL.calls hS rfl rfl (hap _ (hp.at hS)) rfl rfl rfl ?_; rintro v w rfl hS) | (refine WL.store hS rfl rfl rfl Sb rfl rfl rfl ?_; intro w hS) | (refine WL.alloc hS rfl rfl rfl rfl rfl rfl ?_; intro w b hS) | refine WL.index rfl rfl rfl rfl Zw rfl rfl rfl rfl ?_) | (show WC _ _ _ _ _ _; first | refine WC.seq ?_ | refine WC.region ?_ | refine WC.block ?_ | refine WC.skip ?_ | refine WC.ret ?_ | refine WC.condT rfl Zd ?_ | refine WC.condT rfl (decide_eq_true Zw) ?_) | refine seqQ_n ?_ | refine seqQ_r ?_ | refine blkQ_r ?_ | refine rndQ_r ?_)
   intro a ha
   have hS := hS.pulls (D := [.box rb 30 [.int .i64 1]]) Pu
   exact ap_ret (e0 := 1) hS (ha.get 4) fun w' hS' => ⟨_, rfl, by rw [if_neg hno], by rw [if_neg hno]; exact hS'.mutLp Pu⟩
  ·have hz2 : ∀ j (h : j < F.length), j < k + 1 → rootE F[j].root ≠ [] := fun j hj hjk => by
    by_cases e : j = k
    ·subst e; exact h0
    ·exact hz j hj Zo
   obtain ⟨HZ, rfl⟩ : ∃ h : (∀ j (h : j < F.length), j < k + 1 → rootE F[j].root ≠ []), h = hz2 := ⟨_, rfl⟩
   clear hz
   generalize F[k] = x at *
   repeat' (first | (show WL _ _ _ _ _ _ _; first | refine WL.pure rfl rfl rfl rfl ?_ | refine WL.nil ?_ | refine WL.load hS rfl rfl (LdOk.box (by repeat (first | exact Zh | apply List.Mem.tail)) rfl) rfl rfl rfl ?_ | refine WL.add rfl rfl rfl Zo rfl rfl rfl ?_ | (refine WL.load hS rfl rfl (LdOk.ownElemE encAc_len (by repeat (first | exact Zh | apply List.Mem.tail)) hel rfl rfl) rfl rfl rfl ?_) | (refine WL.calls hS rfl rfl (hap _ (hp.at hS)) rfl rfl rfl ?_; rintro v w rfl hS) | (refine WL.store hS rfl rfl rfl Sb rfl rfl rfl ?_; intro w hS) | (refine WL.alloc hS rfl rfl rfl rfl rfl rfl ?_; intro w b hS) | refine WL.index rfl rfl rfl rfl Zw rfl rfl rfl rfl ?_) | (show WC _ _ _ _ _ _; first | refine WC.seq ?_ | refine WC.region ?_ | refine WC.block ?_ | refine WC.skip ?_ | refine WC.condT rfl (decide_eq_true Zw) ?_ | refine WC.condF rfl (decide_eq_false Zw) ?_) | refine seqQ_n ?_ | refine blkQ_n ?_)
   exact rndQ_n (k + 1) ⟨⟨hlt, HZ⟩, hS.droplast2 Pu⟩ (by show F.length - (k + 1) < F.length - k; omega) ⟨vint Zo, trivial⟩ ⟨rfl, rfl, rfl, rfl, rfl, trivial⟩
 ·have hyes : rootsOk F = true := List.all_eq_true.2 fun a ha => by
   obtain ⟨j, hj, rfl⟩ := List.getElem_of_mem ha
   exact decide_eq_true (hz j hj Zo)
  clear hz
  repeat' (first | (show WL _ _ _ _ _ _ _; first | refine WL.pure rfl rfl rfl rfl ?_ | refine WL.nil ?_) | (show WC _ _ _ _ _ _; first | refine WC.seq ?_ | refine WC.region ?_ | refine WC.exit ?_ | refine WC.condF rfl (decide_eq_false Zw) ?_) | refine seqQ_n ?_ | refine seqQ_x ?_ | refine blkQ_hit rfl ?_ | refine rndQ_x ?_)
  show WR _ _ _ _ _ _
  rw [if_pos hyes]
  refine WR.range rfl ?_
  repeat' (first | (show WL _ _ _ _ _ _ _; first | refine WL.pure rfl rfl rfl rfl ?_ | refine WL.nil ?_ | (refine WL.callL (D := []) hS Pu rfl rfl (fun hI => backA_c A2 F.length c2 _) rfl rfl rfl ?_; rintro v w ⟨sb, rfl, hm⟩ hS; replace hS := hS _ hm; clear hm)) | (show WC _ _ _ _ _ _; first | refine WC.region ?_) | fail)
  refine rangeAt_of (gf := 164) (cap := ⟨[.pointer (some ⟨sb, 0, none⟩)]⟩) hS rfl Zk fun db fn F0 tm w2 RC hfn htn htf hRC hS => ?_
  refine Calls.mono (backInA_c (b := sb) (A := A2) (cap := c2) (t := F) (I := fun k w => ∃ Dk, downA F D k = (0, Dk) ∧ DkB n Dk ∧ St w0 (fps [dkC q mb lb D]) w [ocC (db + 1) (RC .ready none), ocC db (.deferred (some [])), .box sb 88 [.slice A2 F.length c2], .own (.slice A2 F.length c2) 167 4 F.length (F.flatMap encAc), .box rb 30 [.int .i64 0], .box tb 23 [.pointer (some ⟨q, 0, none⟩)], dkC q mb lb Dk] [⟨w0, fun b => b < w0.heap.size ∧ b ∉ fps [dkC q mb lb D]⟩]) (X := fun _ => False)
   (S := fun c w => ∃ e Dk, runF D (F.map fsA) = (e, Dk) ∧ e ≠ 0 ∧ c = haltE e ∧ St w0 (fps [dkC q mb lb D]) w [.box rb 30 [.int .i64 0], ocC db (.deferred (some [])), dkC q mb lb Dk] [⟨w0, fun b => b < w0.heap.size ∧ b ∉ fps [dkC q mb lb D]⟩]) Zo ?_ ?_ ?_ ?_) ?_
  ·rintro k w ⟨Dk, _, _, hS⟩
   exact hS.holds (.box sb 88 [.slice A2 F.length c2]) (by simp)
  ·rintro k w ⟨Dk, _, _, hS⟩
   exact St.ownSl (enc := encAc) (hsz := encAc_len) Zd hS (by repeat (first | exact Zh | apply List.Mem.tail))
  ·rintro k hk w ⟨Dk, hdn, hbk, hS⟩
   have hrec : w.heap[db + 1]? = some (RC .ready none) := hS.heapOf (.head _)
   rw [hRC] at hrec
   refine yield2 (n := Tryz.f50.ntmps) hrec hfn htn htf (Nat.le_of_ble_eq_true rfl) (Nat.le_of_ble_eq_true rfl) ?_
   repeat' (first | (show WL _ _ _ _ _ _ _; first | refine WL.nil ?_ | (refine WL.store hS rfl rfl rfl Sb rfl rfl rfl ?_; intro w hS) | (refine WL.alloc hS rfl rfl rfl rfl rfl rfl ?_; intro w b hS)) | (show WC _ _ _ _ _ _; first | refine WC.region ?_) | fail)
   obtain ⟨w2, hbg, hS⟩ := rc_begin (P := Tryz.prog) hRC hS Rp
   refine ⟨w2, hbg, ?_⟩
   have hFk := hFok _ (List.getElem_mem hk)
   have hap := fun (w : World) (ht : powT w) => avolume_c F[k].root w hFk.lo hFk.hi ht
   have hst := downA_step F D hk
   have hpl := fsA_len hFk
   have hrl := rootE_len F[k].root
   have hpth := hFk.path
   rw [hdn] at hst
   have hfs : (fsA F[k]).p = rootE F[k].root ++ [47] ++ F[k].path := by simp [fsA]
   have hfk : (fsA F[k]).kind = F[k].kind := rfl
   generalize fsA F[k] = fs at *
   generalize F[k] = x at *
   generalize rootE x.root = rt at *
   obtain ⟨xr, xp, xk, xd⟩ := x
   dsimp only at hap hrl hpth hfs hfk
   repeat' (first | (show WL _ _ _ _ _ _ _; first | refine WL.pure rfl rfl rfl rfl ?_ | refine WL.nil ?_ | refine WL.load hS rfl rfl (LdOk.box (by repeat (first | exact Zh | apply List.Mem.tail)) rfl) rfl rfl rfl ?_ | (refine WL.calls hS rfl rfl (dkind_c (rt ++ [47] ++ xp) (hS.holds (dkC q mb lb Dk) (by repeat (first | exact Zh | apply List.Mem.tail))).1) rfl rfl rfl ?_; rintro v w rfl hS) | (refine WL.callL (D := [dkC q mb lb Dk]) hS Pu rfl rfl (fun hI => dremove_c (rt ++ [47] ++ xp) hI (by rw [← hfs]; exact hpl) (Nat.le_trans hbk.len Zo) hbk.key) rfl rfl rfl ?_; rintro v w ⟨rfl, hm⟩ hS; replace hS := hS _ hm; clear hm) | (refine WL.callP0 hS rfl rfl (must_c _ _) rfl rfl rfl (fun v w he hS => ?_) (fun c w he hS => ?_)) | refine WL.skip rfl rfl rfl ?_ | ((fail_if_success (refine WL.wanted rfl ?_)); refine WL.guard rfl rfl rfl (fun h => ?_) (fun h => ?_) <;> (try simp only [Ya,Yb,Yc,Yd,Ye,Yf,Yg,Yh,Yi,Yj,Yk,Yl,Ym,Yn,Yo,Yp] at h) <;> (try exact Zx))) | (show WC _ _ _ _ _ _; first | refine WC.seq ?_ | refine WC.region ?_ | refine WC.block ?_ | refine WC.skip ?_ | (show WC _ _ (Code.region _ (List.toArray [_, _, _, _, _, _, _, _]) true) _ _ _; refine WC.drawS hS [0,1,3,4,5,6,7] [0,1,4,5,2,3,6,7] Zk Zk ?_; clear hS; intro w hS hM) | refine WC.condF rfl Zr ?_ | (refine WC.cond rfl (fun h => ?_) (fun h => ?_) <;> (try simp only [Ya,Yb,Yc,Yd,Ye,Yf,Yg,Yh,Yi,Yj,Yk,Yl,Ym,Yn,Yo,Yp] at h) <;> (try exact Zx))) | (show WD _ _ _ _ _ _ _ _ _; first | refine WD.pure rfl rfl rfl rfl rfl ?_ | refine WD.nil ?_ | refine WD.load rfl rfl (LdOk.box (by repeat (first | exact Zh | apply List.Mem.tail)) rfl) rfl rfl rfl rfl ?_ | (refine WD.calls hS hM rfl rfl (hap _ (hp.at hS)) rfl rfl rfl rfl rfl ?_; clear hS; rintro v w rfl hS) | (refine WD.cat rfl rfl rfl (by first | omega | (simp only [List.length_append, List.length_cons, List.length_nil]; omega)) rfl rfl rfl rfl ?_)) | refine seqQ_n ?_ | refine blkQ_n ?_)
   ·obtain ⟨w3, hen, hS⟩ := rc_endN (P := Tryz.prog) hRC hS Rp
    refine ⟨_, w3, hen, .inl ⟨rfl, (Dk.remove (rt ++ [47] ++ xp)).2, ?_, hbk.remove, hS.droplast2 Pu⟩⟩
    rw [hst]
    unfold rmS
    rw [if_neg (fun hh => hh rfl), hfs, hfk, if_pos ⟨by assumption, by assumption⟩]
    exact Prod.ext he rfl
   ·refine blkQ_p ?_
    refine ⟨(Dk.remove (rt ++ [47] ++ xp)).1, (Dk.remove (rt ++ [47] ++ xp)).2, ?_, he.2, he.1, hS.droplast2 Pu⟩
    have hd : downA F D k = Dk.remove (rt ++ [47] ++ xp) := by
     rw [hst]
     unfold rmS
     rw [if_neg (fun hh => hh rfl), hfs, hfk, if_pos ⟨by assumption, by assumption⟩]
    rw [downA_fail F D (Nat.le_of_lt hk) (by rw [hd]; exact he.2), hd]
   ·obtain ⟨w3, hen, hS⟩ := rc_endN (P := Tryz.prog) hRC hS Rp
    refine ⟨_, w3, hen, .inl ⟨rfl, Dk, ?_, hbk, hS.droplast2 Pu⟩⟩
    rw [hst]
    unfold rmS
    rw [if_neg (fun hh => hh rfl), hfs, hfk, if_neg (fun hh => hh.2 (by assumption))]
   ·obtain ⟨w3, hen, hS⟩ := rc_endN (P := Tryz.prog) hRC hS Rp
    refine ⟨_, w3, hen, .inl ⟨rfl, Dk, ?_, hbk, hS.droplast2 Pu⟩⟩
    rw [hst]
    unfold rmS
    rw [if_neg (fun hh => hh rfl), hfs, if_neg (fun hh => hh.1 h)]
  ·exact ⟨D, downA_end F D, hB, hS⟩
  ·rintro e w hcall
   rcases hcall with ⟨v, rfl, ⟨Dk, hdn, hbk, hS⟩ | hx⟩ | ⟨c, rfl, e, Dk, hrun, hne, rfl, hS⟩
   rotate_left
   ·exact hx.elim
   ·intro a ha
    obtain ⟨w3, htk, hS⟩ := run_take (P := Tryz.prog) hS Rp
    refine ⟨[db], [⟨.fn (.func 110) ⟨[.pointer (some ⟨rb, 0, none⟩)]⟩, #[]⟩], ha.defers, w3, htk, ?_⟩
    exact ap_pan (e0 := 0) hS (ha.get 4) fun w' hS' => ⟨_, rfl, by rw [hrun], by rw [hrun]; exact hS'.mutLp Pu⟩
   obtain ⟨w3, hend, hS⟩ := rc_endAll (P := Tryz.prog) (st := .ready) hRC Zd hS Rp
   refine ⟨none, w3, hend, .inl ⟨rfl, ?_⟩⟩
   replace hS := hS.droplast2 (D := [ocC db (.deferred (some [])), .own (.slice A2 F.length c2) 167 4 F.length (F.flatMap encAc), .box rb 30 [.int .i64 0], .box tb 23 [.pointer (some ⟨q, 0, none⟩)], dkC q mb lb Dk]) Pu
   clear hfn htn htf hRC hend
   rw [downA_all] at hdn
   refine WR.seq (Q0 := endQ0 _ _ _ [db] [⟨.fn (.func 110) ⟨[.pointer (some ⟨rb, 0, none⟩)]⟩, #[]⟩] _) rfl (endQ0_ok rfl) ?_
   repeat' (first | (show WL _ _ _ _ _ _ _; first | refine WL.pure rfl rfl rfl rfl ?_ | refine WL.nil ?_) | (show WC _ _ _ _ _ _; first | refine WC.seq ?_ | refine WC.region ?_ | refine WC.block ?_) | refine seqQ_n ?_)
   refine WC.loop (σ := Nat × Go.Proofs.YtccfiohagbneaaaGreatDoor.Dk) [2, 4, 57, 58] (fun (k, _) => [(59, .int .i64 (k : Int))])
    (fun (k, Dk) w => (k ≤ F.length ∧ upA F D k = (0, Dk) ∧ DkB (n + 3 * k) Dk) ∧ St w0 (fps [dkC q mb lb D]) w [ocC db (.deferred (some [])), .own (.slice A2 F.length c2) 167 4 F.length (F.flatMap encAc), .box rb 30 [.int .i64 0], .box tb 23 [.pointer (some ⟨q, 0, none⟩)], dkC q mb lb Dk] [⟨w0, fun b => b < w0.heap.size ∧ b ∉ fps [dkC q mb lb D]⟩])
    (fun (k, _) => F.length - k) (0, Dk) ⟨⟨Nat.zero_le _, (upA_zero F D).trans hdn, hbk⟩, hS⟩ ⟨rfl, trivial⟩ ?_
   clear hS hdn hbk
   rintro ⟨k, Dk⟩ g w ⟨⟨hk, hup, hbk⟩, hS⟩
   show WC _ _ _ (lf _ [(59, .int .i64 (k : Int))] _ _) _ _
   by_cases hlt : k < F.length
   ·obtain ⟨g2, o2, rfl⟩ := own_some hS (by repeat (first | exact Zh | apply List.Mem.tail)) Zo
    have hFk := hFok _ (List.getElem_mem hlt)
    have hap := fun (w : World) (ht : powT w) => avolume_c F[k].root w hFk.lo hFk.hi ht
    have hel : F[k]? = some F[k] := List.getElem?_eq_getElem hlt
    have hst : upA F D (k + 1) = layN Dk (fsA F[k]).p F[k].kind F[k].data := by rw [upA_step F D hlt, hup, layS_ok rfl]
    have hpl := fsA_len hFk
    have hrl := rootE_len F[k].root
    have hpth := hFk.path
    have hdat := hFk.data
    have hfs : (fsA F[k]).p = rootE F[k].root ++ [47] ++ F[k].path := by simp [fsA]
    rw [hfs] at hst hpl
    generalize F[k] = x at *
    generalize rootE x.root = rt at *
    obtain ⟨xr, xp, xk, xd⟩ := x
    dsimp only at hap hrl hpth hdat hst hpl
    repeat' (first | (show WL _ _ _ _ _ _ _; first | refine WL.pure rfl rfl rfl rfl ?_ | refine WL.nil ?_ | refine WL.add rfl rfl rfl Zo rfl rfl rfl ?_ | (refine WL.load hS rfl rfl (LdOk.ownElemE encAc_len (by repeat (first | exact Zh | apply List.Mem.tail)) hel rfl rfl) rfl rfl rfl ?_) | (refine WL.store hS rfl rfl rfl Sb rfl rfl rfl ?_; intro w hS) | (refine WL.alloc hS rfl rfl rfl rfl rfl rfl ?_; intro w b hS) | refine WL.index rfl rfl rfl rfl Zw rfl rfl rfl rfl ?_) | (show WC _ _ _ _ _ _; first | refine WC.seq ?_ | refine WC.region ?_ | refine WC.block ?_ | refine WC.skip ?_ | (show WC _ _ (Code.region _ (List.toArray [_, _, _, _, _, _, _, _, _, _, _]) true) _ _ _; refine WC.drawL [dkC q mb lb Dk] hS Pu [0,1,2,4,5,6,7,8,9] [0,1,2,5,6,8,9,3,4,7,10] Zk Zk ?_; clear hS; intro w hS hM) | refine WC.condT rfl (decide_eq_true Zw) ?_) | (show WD _ _ _ _ _ _ _ _ _; first | refine WD.pure rfl rfl rfl rfl rfl ?_ | refine WD.nil ?_ | refine WD.load rfl rfl (LdOk.box (by repeat (first | exact Zh | apply List.Mem.tail)) rfl) rfl rfl rfl rfl ?_ | (refine WD.calls hS hM rfl rfl (hap _ (hp.at hS)) rfl rfl rfl rfl rfl ?_; clear hS; rintro v w rfl hS) | (refine WD.cat rfl rfl rfl (by first | omega | (simp only [List.length_append, List.length_cons, List.length_nil]; omega)) rfl rfl rfl rfl ?_) | (refine WD.callPL (D := [dkC q mb lb Dk]) hS Pu (.refl _ _) rfl rfl (fun hI => lay_c (rt ++ [47] ++ xp) xk xd hI hbk hpl hdat) rfl rfl rfl rfl rfl (fun v w hR => ⟨_, hR.2, fun hS hM => ?_⟩) (fun c w hR hS => ?_))) | refine seqQ_n ?_ | refine blkQ_n ?_)
    ·refine rndQ_n (k + 1, (layN Dk (rt ++ [47] ++ xp) xk xd).2) ⟨⟨hlt, ?_, (hbk.layN hpl hdat).mono Zo⟩, hS.droplast2 Pu⟩ (by show F.length - (k + 1) < F.length - k; omega) ⟨vint Zo, trivial⟩ ⟨rfl, rfl, rfl, rfl, trivial⟩
     rw [hst]
     exact Prod.ext hR.1 rfl
    ·repeat (first | refine blkQ_p ?_ | refine seqQ_p ?_ | refine rndQ_p ?_)
     intro tmps hpin
     have hS := hS _ hR.2.2
     obtain ⟨w3, htk, hS⟩ := run_take (P := Tryz.prog) hS Rp
     refine ⟨w3, htk, ?_⟩
     have hrun : runF D (F.map fsA) = layN Dk (rt ++ [47] ++ xp) xk xd := by
      rw [upA_fail F D (k := k + 1) (by rw [hst]; exact hR.1), hst]
     obtain ⟨_, rfl, _⟩ := hR
     exact ap_pan (e0 := 0) (hS.pulls (D := [.box rb 30 [.int .i64 0]]) Pu) (hpin 4 (show 4 < 5 by decide)) fun w' hS' => ⟨_, rfl, by rw [hrun], by rw [hrun]; exact hS'.mutLp Pu⟩
   ·have e : k = F.length := Zo
    subst e
    rw [upA_all] at hup
    repeat' (first | (show WL _ _ _ _ _ _ _; first | refine WL.pure rfl rfl rfl rfl ?_ | refine WL.nil ?_) | (show WC _ _ _ _ _ _; first | refine WC.seq ?_ | refine WC.region ?_ | refine WC.exit ?_ | refine WC.condF rfl (decide_eq_false Zw) ?_) | refine seqQ_n ?_ | refine seqQ_x ?_ | refine blkQ_hit rfl ?_ | refine rndQ_x ?_)
    show WR _ _ _ _ _ _
    refine WR.seq (Q0 := endQ0 _ _ _ [db] [⟨.fn (.func 110) ⟨[.pointer (some ⟨rb, 0, none⟩)]⟩, #[]⟩] _) rfl (endQ0_ok rfl) ?_
    repeat' (first | (show WL _ _ _ _ _ _ _; first | refine WL.nil ?_ | (refine WL.store hS rfl rfl rfl Sb rfl rfl rfl ?_; intro w hS)) | (show WC _ _ _ _ _ _; first | refine WC.region ?_) | fail)
    show WR _ _ _ _ _ _
    refine WR.ofC (Q0 := endQ0 _ _ _ [db] [⟨.fn (.func 110) ⟨[.pointer (some ⟨rb, 0, none⟩)]⟩, #[]⟩] _) rfl ?_ (endQ0_ok rfl)
    repeat' (first | (show WC _ _ _ _ _ _; first | refine WC.ret ?_) | fail)
    intro a ha
    obtain ⟨w3, htk, hS⟩ := run_take (P := Tryz.prog) hS Rp
    refine ⟨w3, htk, ?_⟩
    exact ap_ret (e0 := 0) (hS.pulls (D := [.box rb 30 [.int .i64 0]]) Pu) (ha.get 4) fun w' hS' => ⟨_, rfl, by rw [hup], by rw [hup]; exact hS'.mutLp Pu⟩
open Go Go.J Go.RowKit
theorem tree_of {t : List Ent} (h : checkT t = 0) : t.length ≤ 200 ∧ TreeOk t := by
 unfold checkT at h
 split at h
 ·cases h
 ·split at h
  ·exact ⟨Zo, by assumption⟩
  ·cases h
theorem tree_nil : TreeOk [] := fun i hi => absurd hi (Nat.not_lt_zero _)
def laidE (hub side : List Ent) : Dk := (layT (layT Dv3 hubP hub).2 s1P side).2
theorem laidE_ok {hub side : List Ent} (hh : TreeOk hub) (hs : TreeOk side) : LaidD (laidE hub side) hub side := (laid_two hh hs).2.2.1
theorem laid_c (hub side : List Ent) {A B : Option Addr} {ca cb : Nat} {w0 : World} (hA : SlAt cEnt (Old w0) w0 A hub) (hB : SlAt cEnt (Old w0) w0 B side) (hl : hub.length ≤ 200) (hl2 : side.length ≤ 200) (hh : TreeOk hub) (hs : TreeOk side) :
  Cal Tryz.prog 49 [.slice A hub.length ca, .slice B side.length cb] w0 (fun v w' => Upd [] w0 w' ∧ ∃ q mb lb, v = .pointer (some ⟨q, 0, none⟩) ∧ New w0 w' (dkC q mb lb (laidE hub side))) := by
 refine Cal.mk' Zk Tryz.func49 rfl rfl fun hS => ?_
 obtain ⟨t1, t2, t3, t4, t5, t6, t7⟩ := laid_two hh hs
 obtain ⟨e1, e2, e3⟩ := Dv3_eq
 have hlE : laidE hub side = (layT (layT Dv3 hubP hub).2 s1P side).2 := rfl
 have hw0 : walkE Dv3 hubP = [] := walk_none _ (Dv3_bel _)
 have hd0 : (Dv3.at hubP).dir = true := Zk
 generalize laidE hub side = DL at *
 subst hlE
 have m1 := fun q mb lb (w : World) (hI : InL w [dkC q mb lb Dk0]) => mkdir_c (D := Dk0) sysP hI.head hI.headB Zd
 generalize Dk0.mkdir sysP = r1 at *
 obtain ⟨x1, D1⟩ := r1
 have m2 := fun q mb lb (w : World) (hI : InL w [dkC q mb lb D1]) => mkdir_c (D := D1) hubP hI.head hI.headB Zd
 dsimp only at e1 e2 e3 m1
 generalize D1.mkdir hubP = r2 at *
 obtain ⟨x2, D2⟩ := r2
 have m3 := fun q mb lb (w : World) (hI : InL w [dkC q mb lb D2]) => mkdir_c (D := D2) s1P hI.head hI.headB Zd
 dsimp only at e2 e3 m2
 rw [e3] at m3
 obtain rfl : x1 = 0 := congrArg Prod.fst e1
 obtain rfl : x2 = 0 := congrArg Prod.fst e2
 dsimp only at m3
 have s1 := fun q mb lb (w : World) (hI : InL w [dkC q mb lb Dv3]) (hA : SlAt cEnt (fun b => b < w.heap.size ∧ b ∉ fps [dkC q mb lb Dv3]) w A hub) => slay_c (cap := ca) hub hI hA Zo hh Dv3_q Dv3_s Zd hub_vol hd0 hw0
 clear hw0 hd0 e1 e2 e3
 generalize layT Dv3 hubP hub = r4 at *
 obtain ⟨x4, D4⟩ := r4
 dsimp only at t4 t5 t6 t7 s1
 have s2 := fun q mb lb (w : World) (hI : InL w [dkC q mb lb D4]) (hB : SlAt cEnt (fun b => b < w.heap.size ∧ b ∉ fps [dkC q mb lb D4]) w B side) => slay_c (cap := cb) side hI hB Zo hs t5 t4 Zo s1_vol t6 t7
 dsimp only
 generalize layT D4 s1P side = r5 at *
 obtain ⟨x5, D5⟩ := r5
 dsimp only at s2 ⊢
 clear t1 t2 t3 t4 t5 t6 t7
 repeat' (first | (show WL _ _ _ _ _ _ _; first | refine WL.pure rfl rfl rfl rfl ?_ | refine WL.nil ?_ | (refine WL.callG rfl rfl (dnew_c _) rfl rfl rfl ?_; rintro v w ⟨hu, q, mb, lb, rfl, hn⟩; replace hS := hS.new hu hn; clear hu hn) | (refine WL.callL (D := [dkC q mb lb Dk0]) hS Pu rfl rfl (fun hI => m1 _ _ _ _ hI) rfl rfl rfl ?_; rintro v w ⟨rfl, hm⟩ hS; replace hS := hS _ (.of1 hm); clear hm) | (refine WL.callL (D := [dkC q mb lb D1]) hS Pu rfl rfl (fun hI => m2 _ _ _ _ hI) rfl rfl rfl ?_; rintro v w ⟨rfl, hm⟩ hS; replace hS := hS _ (.of1 hm); clear hm) | (refine WL.callL (D := [dkC q mb lb D2]) hS Pu rfl rfl (fun hI => m3 _ _ _ _ hI) rfl rfl rfl ?_; rintro v w ⟨rfl, hm⟩ hS; replace hS := hS _ (.of1 hm); clear hm) | (refine WL.callL (D := [dkC q mb lb Dv3]) hS Pu rfl rfl (fun hI => s1 _ _ _ _ hI (St.slY (hS.pulls Pu) (by repeat (first | exact Zh | apply List.Mem.tail)) hA)) rfl rfl rfl ?_; rintro v w ⟨rfl, hm⟩ hS; replace hS := hS _ hm; clear hm) | (refine WL.callL (D := [dkC q mb lb D4]) hS Pu rfl rfl (fun hI => s2 _ _ _ _ hI (St.slY (hS.pulls Pu) (by repeat (first | exact Zh | apply List.Mem.tail)) hB)) rfl rfl rfl ?_; rintro v w ⟨rfl, hm⟩ hS; replace hS := hS _ hm; clear hm)) | (show WC _ _ _ _ _ _; first | refine WC.seq ?_ | refine WC.region ?_ | refine WC.skip ?_ | refine WC.ret ?_ | refine WC.condF rfl Zd ?_) | refine seqQ_n ?_)
 exact fin1r rfl rfl ⟨hS.upd, _, _, _, rfl, hS.newOf Zh⟩
theorem walk_len {D : Dk} {v : List UInt8} {n : Nat} (hB : DkB n D) : (walkE D v).length ≤ n := by
 unfold walkE ownsE
 rw [List.length_map, sortL_len, List.length_map]
 unfold Dk.belows
 refine Nat.le_trans (List.length_filter_le _ _) ?_
 rw [List.length_map]; exact hB.len
theorem holds_c {q mb lb n : Nat} {D : Dk} {A B : Option Addr} {ca cb : Nat} {h s : List Ent} {w0 : World} (hI : InL w0 [dkC q mb lb D]) (hA : SlAt cEnt (fun b => b < w0.heap.size ∧ b ∉ fps [dkC q mb lb D]) w0 A h) (hB : SlAt cEnt (fun b => b < w0.heap.size ∧ b ∉ fps [dkC q mb lb D]) w0 B s)
  (hw : DkW D) (hu : D.down = false) (hb : DkB n D) (hn : n ≤ 500000) (hdh : (D.at hubP).dir = true) (hds : (D.at s1P).dir = true) (h1 : walkE D hubP = h) (h2 : walkE D s1P = s) :
  Cal Tryz.prog 56 [.pointer (some ⟨q, 0, none⟩), .slice A h.length ca, .slice B s.length cb] w0 (fun v w' => v = .bool true ∧ MutL w0 w' [dkC q mb lb D] [dkC q mb lb D]) := by
 subst h1 h2
 refine Cal.mkL hI Zk Tryz.func56 rfl rfl fun hS => ?_
 have hl1 := walk_len (v := hubP) hb
 have hl2 := walk_len (v := s1P) hb
 have hwh := fun (w : World) (hI : InL w [dkC q mb lb D]) => swalk_c (v := hubP) hI hw hu hb hn hub_vol hdh
 have hws := fun (w : World) (hI : InL w [dkC q mb lb D]) => swalk_c (v := s1P) hI hw hu hb hn s1_vol hds
 repeat' (first | (show WL _ _ _ _ _ _ _; first | refine WL.pure rfl rfl rfl rfl ?_ | refine WL.nil ?_ | (refine WL.callL (D := [dkC q mb lb D]) hS Pu rfl rfl (fun hI => hwh _ hI) rfl rfl rfl ?_; rintro v w ⟨A1, c1, rfl, hm⟩ hS; replace hS := hS _ hm; clear hm) | (refine WL.callL (D := [dkC q mb lb D]) hS Pu rfl rfl (fun hI => hws _ hI) rfl rfl rfl ?_; rintro v w ⟨A2, c2, rfl, hm⟩ hS; replace hS := hS _ hm; clear hm) | (refine WL.calls hS rfl rfl (rsame_c (walkE D hubP) (St.ownSl (enc := encEnt) (hsz := fun _ => rfl) (l := walkE D hubP) Zd hS (by repeat (first | exact Zh | apply List.Mem.tail))) (hS.slO (by repeat (first | exact Zh | apply List.Mem.tail)) hA) Zo) rfl rfl rfl ?_; rintro v w rfl hS) | (refine WL.calls hS rfl rfl (rsame_c (walkE D s1P) (St.ownSl (enc := encEnt) (hsz := fun _ => rfl) (l := walkE D s1P) Zd hS (by repeat (first | exact Zh | apply List.Mem.tail))) (hS.slO (by repeat (first | exact Zh | apply List.Mem.tail)) hB) Zo) rfl rfl rfl ?_; rintro v w rfl hS)) | (show WC _ _ _ _ _ _; first | refine WC.seq ?_ | refine WC.region ?_ | refine WC.ret ?_) | refine seqQ_n ?_)
 exact fin1r rfl rfl ⟨rfl, hS.mutLp Pu⟩
theorem trees_c (a b c d : List Ent) {A B C D : Option Addr} {ca cb cc cd : Nat} {w0 : World} (hA : SlAt cEnt (Old w0) w0 A a) (hB : SlAt cEnt (Old w0) w0 B b) (hC : SlAt cEnt (Old w0) w0 C c) (hD : SlAt cEnt (Old w0) w0 D d)
  (ka : a.length ≤ ca) (kb : b.length ≤ cb) (kc : c.length ≤ cc) (kd : d.length ≤ cd) (la : a.length ≤ 1048576) (lb : b.length ≤ 1048576) (lc : c.length ≤ 1048576) (ld : d.length ≤ 1048576)
  (za : ∀ e ∈ a, e.path.length ≤ 1048576) (zb : ∀ e ∈ b, e.path.length ≤ 1048576) (zc : ∀ e ∈ c, e.path.length ≤ 1048576) (zd : ∀ e ∈ d, e.path.length ≤ 1048576) :
  Cal Tryz.prog 48 [.slice A a.length ca, .slice B b.length cb, .slice C c.length cc, .slice D d.length cd] w0 (fun v w' => Upd [] w0 w' ∧ ∃ r, v = .bool r ∧ (r = true ↔ checkT a = 0 ∧ checkT b = 0 ∧ checkT c = 0 ∧ checkT d = 0)) := by
 refine Cal.mk' Zk Tryz.func48 rfl rfl fun hS => ?_
 have r1 := fun (w : World) (h : SlAt cEnt (Old w) w A a) => rtcheck_c a h ka la za
 have r2 := fun (w : World) (h : SlAt cEnt (Old w) w B b) => rtcheck_c b h kb lb zb
 have r3 := fun (w : World) (h : SlAt cEnt (Old w) w C c) => rtcheck_c c h kc lc zc
 have r4 := fun (w : World) (h : SlAt cEnt (Old w) w D d) => rtcheck_c d h kd ld zd
 generalize checkT a = xa at *
 generalize checkT b = xb at *
 generalize checkT c = xc at *
 generalize checkT d = xd at *
 by_cases ea : xa = 0
 ·by_cases eb : xb = 0
  ·by_cases ec : xc = 0
   ·repeat' (first | (show WL _ _ _ _ _ _ _; first | refine WL.pure rfl rfl rfl rfl ?_ | refine WL.nil ?_ | (refine WL.calls hS rfl rfl (r1 _ (hS.slO (by repeat (first | exact Zh | apply List.Mem.tail)) hA)) rfl rfl rfl ?_; rintro v w rfl hS) | (refine WL.calls hS rfl rfl (r2 _ (hS.slO (by repeat (first | exact Zh | apply List.Mem.tail)) hB)) rfl rfl rfl ?_; rintro v w rfl hS) | (refine WL.calls hS rfl rfl (r3 _ (hS.slO (by repeat (first | exact Zh | apply List.Mem.tail)) hC)) rfl rfl rfl ?_; rintro v w rfl hS) | (refine WL.calls hS rfl rfl (r4 _ (hS.slO (by repeat (first | exact Zh | apply List.Mem.tail)) hD)) rfl rfl rfl ?_; rintro v w rfl hS) | ((fail_if_success (refine WL.wanted rfl ?_)); refine WL.guard rfl rfl rfl (fun h => ?_) (fun h => ?_) <;> (try simp only [Ya,Yb,Yc,Yd,Ye,Yf,Yg,Yh,Yi,Yj,Yk,Yl,Ym,Yn,Yo,Yp] at h) <;> (try exact Zx))) | (show WC _ _ _ _ _ _; first | refine WC.seq ?_ | refine WC.region ?_ | refine WC.ret ?_) | refine seqQ_n ?_)
    exact fin1r rfl rfl ⟨hS.upd, _, rfl, by simp [ea, eb, ec]⟩
   ·repeat' (first | (show WL _ _ _ _ _ _ _; first | refine WL.pure rfl rfl rfl rfl ?_ | refine WL.nil ?_ | (refine WL.calls hS rfl rfl (r1 _ (hS.slO (by repeat (first | exact Zh | apply List.Mem.tail)) hA)) rfl rfl rfl ?_; rintro v w rfl hS) | (refine WL.calls hS rfl rfl (r2 _ (hS.slO (by repeat (first | exact Zh | apply List.Mem.tail)) hB)) rfl rfl rfl ?_; rintro v w rfl hS) | (refine WL.calls hS rfl rfl (r3 _ (hS.slO (by repeat (first | exact Zh | apply List.Mem.tail)) hC)) rfl rfl rfl ?_; rintro v w rfl hS) | refine WL.skip rfl rfl rfl ?_ | ((fail_if_success (refine WL.wanted rfl ?_)); refine WL.guard rfl rfl rfl (fun h => ?_) (fun h => ?_) <;> (try simp only [Ya,Yb,Yc,Yd,Ye,Yf,Yg,Yh,Yi,Yj,Yk,Yl,Ym,Yn,Yo,Yp] at h) <;> (try exact Zx))) | (show WC _ _ _ _ _ _; first | refine WC.seq ?_ | refine WC.region ?_ | refine WC.ret ?_) | refine seqQ_n ?_)
    exact fin1r rfl rfl ⟨hS.upd, _, rfl, by simp [ec]⟩
  ·repeat' (first | (show WL _ _ _ _ _ _ _; first | refine WL.pure rfl rfl rfl rfl ?_ | refine WL.nil ?_ | (refine WL.calls hS rfl rfl (r1 _ (hS.slO (by repeat (first | exact Zh | apply List.Mem.tail)) hA)) rfl rfl rfl ?_; rintro v w rfl hS) | (refine WL.calls hS rfl rfl (r2 _ (hS.slO (by repeat (first | exact Zh | apply List.Mem.tail)) hB)) rfl rfl rfl ?_; rintro v w rfl hS) | refine WL.skip rfl rfl rfl ?_ | ((fail_if_success (refine WL.wanted rfl ?_)); refine WL.guard rfl rfl rfl (fun h => ?_) (fun h => ?_) <;> (try simp only [Ya,Yb,Yc,Yd,Ye,Yf,Yg,Yh,Yi,Yj,Yk,Yl,Ym,Yn,Yo,Yp] at h) <;> (try exact Zx))) | (show WC _ _ _ _ _ _; first | refine WC.seq ?_ | refine WC.region ?_ | refine WC.ret ?_) | refine seqQ_n ?_)
   exact fin1r rfl rfl ⟨hS.upd, _, rfl, by simp [eb]⟩
 ·repeat' (first | (show WL _ _ _ _ _ _ _; first | refine WL.pure rfl rfl rfl rfl ?_ | refine WL.nil ?_ | (refine WL.calls hS rfl rfl (r1 _ (hS.slO (by repeat (first | exact Zh | apply List.Mem.tail)) hA)) rfl rfl rfl ?_; rintro v w rfl hS) | refine WL.skip rfl rfl rfl ?_ | ((fail_if_success (refine WL.wanted rfl ?_)); refine WL.guard rfl rfl rfl (fun h => ?_) (fun h => ?_) <;> (try simp only [Ya,Yb,Yc,Yd,Ye,Yf,Yg,Yh,Yi,Yj,Yk,Yl,Ym,Yn,Yo,Yp] at h) <;> (try exact Zx))) | (show WC _ _ _ _ _ _; first | refine WC.seq ?_ | refine WC.region ?_ | refine WC.ret ?_) | refine seqQ_n ?_)
  exact fin1r rfl rfl ⟨hS.upd, _, rfl, by simp [ea]⟩
theorem acts_one (l : List Ac) : Go.J.one (l.flatMap encAc) = true := by
 unfold Go.J.one
 rw [List.all_eq_true]
 intro v hv
 obtain ⟨e, _, h⟩ := List.mem_flatMap.1 hv
 simp only [encAc, List.mem_cons, List.not_mem_nil, or_false] at h
 rcases h with rfl | rfl | rfl | rfl <;> rfl
theorem two_c (a b c d : List Ent) {A B C D : Option Addr} {ca cb cc cd : Nat} {w0 : World} (hA : SlAt cEnt (Old w0) w0 A a) (hB : SlAt cEnt (Old w0) w0 B b) (hC : SlAt cEnt (Old w0) w0 C c) (hD : SlAt cEnt (Old w0) w0 D d)
  (la : a.length ≤ 200) (lb : b.length ≤ 200) (lc : c.length ≤ 200) (ld : d.length ≤ 200) :
  Cal Tryz.prog 55 [.slice A a.length ca, .slice B b.length cb, .slice C c.length cc, .slice D d.length cd] w0 (fun v w' => Upd [] w0 w' ∧ ∃ A' c', v = .slice A' (twoA 0 1 a b c d).length c' ∧ New w0 w' (aC A' c' (twoA 0 1 a b c d))) := by
 refine Cal.mk' Zk Tryz.func55 rfl rfl fun hS => ?_
 have l1 := act_len 0 a c
 have l2 := act_len 1 b d
 have h1 := fun (w : World) (h : SlAt cEnt (Old w) w A a) (k : SlAt cEnt (Old w) w C c) => ractions_c (ca := ca) (cb := cc) 0 a c h k Zo Zo
 have h2 := fun (w : World) (h : SlAt cEnt (Old w) w B b) (k : SlAt cEnt (Old w) w D d) => ractions_c (ca := cb) (cb := cd) 1 b d h k Zo Zo
 unfold twoA
 generalize actE 0 a c = x at *
 generalize actE 1 b d = y at *
 have hyl : (y.flatMap encAc).length = y.length * 4 := flat_len encAc_len _
 repeat' (first | (show WL _ _ _ _ _ _ _; first | refine WL.pure rfl rfl rfl rfl ?_ | refine WL.nil ?_ | (refine WL.callG rfl rfl (h1 _ (hS.slO (by repeat (first | exact Zh | apply List.Mem.tail)) hA) (hS.slO (by repeat (first | exact Zh | apply List.Mem.tail)) hC)) rfl rfl rfl ?_; rintro v w ⟨hu, A1, c1, rfl, hn⟩; replace hS := hS.new hu hn; clear hu hn) | (refine WL.callG rfl rfl (h2 _ (hS.slO (by repeat (first | exact Zh | apply List.Mem.tail)) hB) (hS.slO (by repeat (first | exact Zh | apply List.Mem.tail)) hD)) rfl rfl rfl ?_; rintro v w ⟨hu, A2, c2, rfl, hn⟩; replace hS := hS.new hu hn; clear hu hn) | (refine WL.appS (n := x.length) (m := y.length) (size := 4) hS rfl rfl rfl rfl (RdSl.own hS (by repeat (first | exact Zh | apply List.Mem.tail))) hyl (acts_one _) (fun A cap => Rp) Zo rfl rfl rfl ?_; intro A3 cap3 w hS)) | (show WC _ _ _ _ _ _; first | refine WC.seq ?_ | refine WC.region ?_ | refine WC.ret ?_) | refine seqQ_n ?_)
 have hS := hS.droplast2 (D := [.own (.slice A3 (x.length + y.length) cap3) 167 4 (x.length + y.length) (x.flatMap encAc ++ y.flatMap encAc)]) Pu
 refine fin1r rfl rfl ⟨hS.upd, A3, cap3, by rw [List.length_append], ?_⟩
 have := hS.newOf Zh
 unfold aC
 rw [List.flatMap_append, List.length_append]
 exact this
open Go Go.J Go.RowKit
section
variable {D : Dk} {r1 r2 : Int} {o1 o2 n1 n2 : List Ent}
theorem Two.roots (h : Two D r1 r2 o1 o2 n1 n2) : rootsOk (finalE (twoA r1 r2 o1 o2 n1 n2)) = true :=
 List.all_eq_true.2 fun a ha => decide_eq_true (root_vol (h.rootIn ha)).ne
theorem Two.apply (h : Two D r1 r2 o1 o2 n1 n2) : applyA D (twoA r1 r2 o1 o2 n1 n2) = runF D (twoF r1 r2 o1 o2 n1 n2) := by
 unfold applyA
 rw [if_pos h.roots]; rfl
theorem act_ok {root : Int} (hr : 0 ≤ root ∧ root ≤ 6) {old now : List Ent} (ho : TreeOk old) (hn : TreeOk now) : ∀ a ∈ actE root old now, AcOk a := fun a ha => by
 have h1 := act_root ha
 rcases List.mem_append.1 ha with ha | ha
 ·obtain ⟨x, hx, _, rfl⟩ := mem_rem.1 ha
  have := tree_small ho hx
  exact ⟨by show -9223372036854775808 ≤ root; omega, by show root ≤ 9223372036854775807; omega, by show x.path.length ≤ _; omega, Nat.zero_le _⟩
 ·obtain ⟨x, hx, _, rfl⟩ := mem_put.1 ha
  have := tree_small hn hx
  exact ⟨by show -9223372036854775808 ≤ root; omega, by show root ≤ 9223372036854775807; omega, by show x.path.length ≤ _; omega, by show x.data.length ≤ _; omega⟩
theorem Two.acts (h : Two D r1 r2 o1 o2 n1 n2) : ∀ a ∈ twoA r1 r2 o1 o2 n1 n2, AcOk a := fun a ha => by
 rcases List.mem_append.1 ha with ha | ha
 ·exact act_ok h.q1 h.t1 h.u1 a ha
 ·exact act_ok h.q2 h.t2 h.u2 a ha
theorem twoA_len (r1 r2 : Int) (o1 o2 n1 n2 : List Ent) : (twoA r1 r2 o1 o2 n1 n2).length ≤ o1.length + o2.length + n1.length + n2.length := by
 unfold twoA
 rw [List.length_append]
 have h1 := act_len r1 o1 n1
 have h2 := act_len r2 o2 n2
 omega
structure Ran (D : Dk) (r1 r2 : Int) (o1 o2 n1 n2 : List Ent) (r : Int × Dk) : Prop where
 w : DkW r.2
 firm : Firm r.2
 d1 : (r.2.at (rootE r1)).dir = true
 d2 : (r.2.at (rootE r2)).dir = true
 nn : ∀ q, nodeD r.2 (rootE r1) q = nodeT o1 q ∨ nodeD r.2 (rootE r1) q = nodeT n1 q ∨ (nodeD r.2 (rootE r1) q = (0, []) ∧ (nodeT o1 q).1 ≠ (nodeT n1 q).1)
 or_ : (r.1 = 14 ∧ r.2.down = true) ∨ (r.1 = 0 ∧ r.2.down = false ∧ (∀ q, nodeD r.2 (rootE r1) q = nodeT n1 q) ∧ (∀ q, nodeD r.2 (rootE r2) q = nodeT n2 q) ∧ DoneOn (twoF r1 r2 o1 o2 n1 n2) r.2)
 calm : D.armed < 0 → r.1 = 0 ∧ r.2.armed < 0
theorem Two.ran (h : Two D r1 r2 o1 o2 n1 n2) (hu : D.down = false) (hf : Firm D) : Ran D r1 r2 o1 o2 n1 n2 (runF D (twoF r1 r2 o1 o2 n1 n2)) := by
 have hp := h.plan
 have hr := hp.run (.refl hp) hu
 have hb : Betw D (twoF r1 r2 o1 o2 n1 n2) (runF D (twoF r1 r2 o1 o2 n1 n2)).2 := by
  rcases hr.or_ with ⟨_, _, h3⟩ | ⟨_, _, h3, _⟩ <;> exact h3
 refine ⟨hb.w, hr.firm hf, h.dir1 hb, h.dir2 hb, fun q => h.node1 hb q, ?_, hr.calm⟩
 rcases hr.or_ with ⟨e1, e2, _⟩ | ⟨e1, e2, _, hd⟩
 ·exact .inl ⟨e1, e2⟩
 ·refine .inr ⟨e1, e2, fun q => ?_, fun q => ?_, fun a ha => ?_⟩
  ·obtain ⟨_, m2, m3⟩ := vol_nsys (q := q) (root_vol h.q1)
   exact (hd _ m2 m3).trans (h.new1 q)
  ·obtain ⟨_, m2, m3⟩ := vol_nsys (q := q) (root_vol h.q2)
   exact (hd _ m2 m3).trans (h.new2 q)
  ·obtain ⟨_, _, m2, m3⟩ := hp.ok a ha
   rw [hd _ m2 m3, newN_of hp.nd ha]
theorem Two.quiet (h : Two D r1 r2 o1 o2 n1 n2) (hq : Quiet D) (hf : Firm D) : (runF D (twoF r1 r2 o1 o2 n1 n2)).1 = 0 ∧ Quiet (runF D (twoF r1 r2 o1 o2 n1 n2)).2 ∧ (∀ q, nodeD (runF D (twoF r1 r2 o1 o2 n1 n2)).2 (rootE r1) q = nodeT n1 q) ∧ (∀ q, nodeD (runF D (twoF r1 r2 o1 o2 n1 n2)).2 (rootE r2) q = nodeT n2 q) ∧ DoneOn (twoF r1 r2 o1 o2 n1 n2) (runF D (twoF r1 r2 o1 o2 n1 n2)).2 := by
 have h1 := h.ran hq.up hf
 obtain ⟨c1, c2⟩ := h1.calm hq.calm
 rcases h1.or_ with ⟨e, _⟩ | ⟨_, e2, e3, e4, e5⟩
 ·rw [e] at c1; exact absurd c1 Zd
 ·exact ⟨c1, ⟨h1.w, e2, c2⟩, e3, e4, e5⟩
theorem tree_kinds {t : List Ent} (h : TreeOk t) : ∀ e ∈ t, e.kind ≠ 0 := fun e he => by
 obtain ⟨i, hi, rfl⟩ := List.getElem_of_mem he
 exact (h i hi).kind
theorem walk_tree {v : List UInt8} {t : List Ent} (hw : DkW D) (ht : TreeOk t) (h : ∀ q, nodeD D v q = nodeT t q) : walkE D v = t := walk_eq hw.nd (of_rise ht.rise) (tree_kinds ht) h
end
section
variable {P : Program} {fid : FuncId} {args : List Value} {w : World} {X : Prop}
theorem _root_.Go.J.Cal.says_yes (h : Cal P fid args w fun v w' => Upd [] w w' ∧ ∃ r, v = .bool r ∧ (r = true ↔ X)) (hx : X) : Cal P fid args w fun v w' => Upd [] w w' ∧ v = .bool true :=
 h.mono fun v w' ⟨hu, r, hv, hr⟩ => ⟨hu, by rw [hv, hr.2 hx]⟩
theorem _root_.Go.J.Cal.says_no (h : Cal P fid args w fun v w' => Upd [] w w' ∧ ∃ r, v = .bool r ∧ (r = true ↔ X)) (hx : ¬ X) : Cal P fid args w fun v w' => Upd [] w w' ∧ v = .bool false :=
 h.mono fun v w' ⟨hu, r, hv, hr⟩ => ⟨hu, by
  cases r with
  |false => exact hv
  |true => exact absurd (hr.1 rfl) hx⟩
end
def oneT : List Ent := [⟨[97], 2, [104, 105]⟩]
theorem oneT_tree : TreeOk oneT := fun i hi => by
 have : i = 0 := by unfold oneT at hi; simp at hi; omega
 subst this
 exact ⟨Zk, Zk, by show (2 : Int) ≠ 0; decide, fun j hj => Zo, fun h => absurd Zk h⟩
theorem oneA : twoA 0 1 [] [] oneT [] = [⟨0, [97], 2, [104, 105]⟩] := Zk
theorem apawake_c (w0 : World) (ht : powT w0) : Cal Tryz.prog 47 [] w0 (fun v w' => Upd [] w0 w' ∧ v = .bool true) := by
 refine Cal.mk' Zk Tryz.func47 rfl rfl fun hS => ?_
 have hp := PowI.of ht
 have hl := laidE_ok tree_nil tree_nil
 have htw := hl.two tree_nil tree_nil oneT_tree tree_nil
 have hap := htw.apply
 have hok := htw.acts
 rw [oneA] at hap hok
 obtain ⟨a1, a2, a3, a4, _⟩ := htw.quiet hl.q hl.firm
 have a5 : DkS (3 + 3 * (twoF 0 1 [] [] oneT []).length) (runF (laidE [] []) (twoF 0 1 [] [] oneT [])).2 := hl.s.runF htw.sizes
 have hfl := twoF_len 0 1 [] [] oneT []
 have hw1 := walk_tree a2.w oneT_tree a3
 have hw2 := walk_tree a2.w tree_nil a4
 rw [root0] at hw1
 rw [root1] at hw2
 have hdh := (htw.ran hl.q.up hl.firm).d1
 have hds := (htw.ran hl.q.up hl.firm).d2
 rw [root0] at hdh
 rw [root1] at hds
 have hlaid := fun (w : World) => laid_c (ca := 0) (cb := 0) (A := none) (B := none) (w0 := w) [] [] SlAt.nil0 SlAt.nil0 (Nat.zero_le _) (Nat.zero_le _) tree_nil tree_nil
 have hs0 : DkS 10 (laidE [] []) := hl.s.mono Zd
 replace hfl : (twoF 0 1 [] [] oneT []).length ≤ 1 := hfl
 replace a5 : DkS 10 (runF (laidE [] []) (twoF 0 1 [] [] oneT [])).2 := a5.mono Zo
 have hap2 := fun q mb lb A cap (w : World) (hI : InL w [dkC q mb lb (laidE [] [])]) (hA : SlAt cAc (fun b => b < w.heap.size ∧ b ∉ fps [dkC q mb lb (laidE [] [])]) w A [⟨0, [97], 2, [104, 105]⟩]) (hp : PowI w (fps [dkC q mb lb (laidE [] [])])) => aapply_c (cap := cap) [⟨0, [97], 2, [104, 105]⟩] hI hA Zd hok hs0.b Zd hp
 rw [hap] at hap2
 clear htw hl hap
 generalize twoF 0 1 [] [] oneT [] = F at *
 generalize laidE [] [] = D0 at *
 generalize runF D0 F = r at *
 obtain ⟨e, D1⟩ := r
 obtain rfl : e = 0 := a1
 dsimp only at a2 a3 a4 a5 hw1 hw2 hdh hds hap2
 have hho := fun q mb lb A (w : World) (hI : InL w [dkC q mb lb D1]) (hA : SlAt cEnt (fun b => b < w.heap.size ∧ b ∉ fps [dkC q mb lb D1]) w A oneT) => holds_c (ca := 1) (cb := 0) (B := none) (s := []) hI hA SlAt.nil0 a2.w a2.up a5.b Zd hdh hds hw1 hw2
 have hvol := fun (w : World) (ht : powT w) => avolume_c 2 w Zd Zd ht
 rw [show rootE 2 = [115, 50] by decide +kernel] at hvol
 clear a2 a3 a4 a5 hw1 hw2 hdh hds hs0 hok hfl
 repeat' (first | (show WL _ _ _ _ _ _ _; first | refine WL.pure rfl rfl rfl rfl ?_ | refine WL.nil ?_ | refine WL.load hS rfl rfl (LdOk.box (by repeat (first | exact Zh | apply List.Mem.tail)) rfl) rfl rfl rfl ?_ | (refine WL.callG rfl rfl (hlaid _) rfl rfl rfl ?_; rintro v w ⟨hu, q, mb, lb, rfl, hn⟩; replace hS := hS.new hu hn; clear hu hn) | (refine WL.slit (t := 84) hS rfl rfl rfl rfl rfl ?_; intro w eb hS) | (refine WL.slit (t := 88) hS rfl rfl rfl rfl rfl ?_; intro w ob hS; replace hS := hS.boxRow (n := 1) (size := 4) .here rfl Zd) | (refine WL.callL (D := [dkC q mb lb D0]) hS Pu rfl rfl (fun hI => hap2 _ _ _ _ _ _ hI (St.ownSlY (enc := encAc) (hsz := encAc_len) (l := [⟨0, [97], 2, [104, 105]⟩]) Zd (hS.pulls Pu) (by repeat (first | exact Zh | apply List.Mem.tail))) (hp.pull hS Pu)) rfl rfl rfl ?_; rintro v w ⟨rfl, hm⟩ hS; replace hS := hS _ hm; clear hm) | (replace hS := hS.boxRow (b := eb) (n := 1) (size := 3) Rp rfl Zd; refine WL.callL (D := [dkC q mb lb D1]) hS Pu rfl rfl (fun hI => hho _ _ _ _ _ hI (St.ownSlY (enc := encEnt) (hsz := fun _ => rfl) (l := oneT) Zd (hS.pulls Pu) (by repeat (first | exact Zh | apply List.Mem.tail)))) rfl rfl rfl ?_; rintro v w ⟨rfl, hm⟩ hS; replace hS := hS _ hm; clear hm) | (refine WL.calls hS rfl rfl (hvol _ (hp.at hS)) rfl rfl rfl ?_; rintro v w rfl hS) | refine WL.index (j := 0) rfl rfl rfl rfl Zo rfl rfl rfl rfl ?_ | refine WL.build rfl rfl rfl rfl rfl ?_) | (show WC _ _ _ _ _ _; first | refine WC.seq ?_ | refine WC.region ?_ | refine WC.ret ?_) | refine seqQ_n ?_)
 exact fin1r rfl rfl ⟨hS.upd, rfl⟩
end Go.Proofs.YtccfiohagbneaaaGreatDoor
