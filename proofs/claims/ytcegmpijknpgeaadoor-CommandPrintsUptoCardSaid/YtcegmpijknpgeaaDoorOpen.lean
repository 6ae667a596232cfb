/- What is proved: an argument that the form reads as data reads as plain data through the codecs, and how its bulk bounds it. Conditions: none. -/
import Derived.Test.YtcegmpijknpgeaaDoorRows
import Derived.Test.YtcegmpijknpgeaaDoorJC
import Derived.ProofKit
import Derived.ChangeSame
import Derived.OpenShut
import Derived.Deep.Slices
set_option linter.unusedSimpArgs false
set_option linter.unusedVariables false
namespace Go.Proofs.YtcegmpijknpgeaaDoor
open Go Go.J Go.RowKit Go.ChangeShapes Go.WideShapes Go.Deep

def Opens {α : Type} (P : Program) (t : TypeId) (c : Cod α) (Q : α → Nat → Prop) : Prop :=
  ∀ {H : Type} (enc : TypeId × Value → H) (W : World) (fuel : Nat) (cs : List Value) (x : DataW H × List MemPlace), DataW.trod enc P W 0 (fun _ => true) true fuel t cs = some x → ∃ y, c.rd (Old W) W cs y ∧ Q y (Rows.uptoBulk x.1)
def QL {α : Type} (Q : α → Nat → Prop) (ys : List α) (b : Nat) : Prop := ∃ bs : List Nat, bs.length = ys.length ∧ (∀ i (h : i < ys.length) (h' : i < bs.length), Q ys[i] bs[i]) ∧ bs.sum + 1 ≤ b

theorem bulkAll_sum {H : Type} (l : List (DataW H)) : Rows.uptoBulkAll l = (l.map Rows.uptoBulk).sum := by
  induction l with
  | nil => simp [Rows.uptoBulkAll]
  | cons d l ih => simp [Rows.uptoBulkAll, ih]

theorem Opens.int {P : Program} {t : TypeId} (ht : P.underlying t = some (.int .i64)) : Opens P t cInt (fun n b => -9223372036854775808 ≤ n ∧ n ≤ 9223372036854775807 ∧ 1 ≤ b) := by
  intro H enc W fuel cs x h
  obtain ⟨n, rfl, rfl, hw⟩ := DataW.trod_int ht h
  refine ⟨n, rfl, ?_⟩
  have h1 := bounds_i64 hw
  exact ⟨h1.1, h1.2, by simp [Rows.uptoBulk]⟩
theorem Opens.str {P : Program} {t : TypeId} (ht : P.underlying t = some .string) : Opens P t cStr (fun s b => s.length + 1 ≤ b) := by
  intro H enc W fuel cs x h
  obtain ⟨s, rfl, rfl, hw⟩ := DataW.trod_string ht h
  exact ⟨s.data.toList, rfl, by simp [Rows.uptoBulk]⟩
theorem Opens.slice {α : Type} [Inhabited α] {P : Program} {t e : TypeId} {c : Cod α} {Q : α → Nat → Prop} (ht : P.underlying t = some (.slice e)) (he : P.cellsOf e = c.sz) (hs : 0 < c.sz) (ho : Opens P e c Q) : Opens P t (cSl c) (QL Q) := by
  intro H enc W fuel cs x h
  rcases open_slice ht h with ⟨rfl, rfl⟩ | ⟨a, len, cap, m, n, D, Pl, rfl, hb, hl, hm, hmm, rfl, hx⟩
  · exact ⟨[], ⟨none, 0, rfl, Nat.le_refl _, fun k hk => absurd hk (by simp)⟩, [], rfl, fun i h => absurd h (by simp), by simp [Rows.uptoBulk]⟩
  · have hml : len ≤ m := by rw [hmm]; simp; omega
    have key : ∀ i, i < len → ∃ y : α, (∃ es, c.rd (Old W) W es y ∧ (a.add (i * c.sz)).block < W.heap.size ∧ (∀ j v, es[j]? = some v → W.cell? ((a.add (i * c.sz)).add j) = some v)) ∧ Q y (Rows.uptoBulk (D i)) := by
      intro i hi
      obtain ⟨cs', hc, htr⟩ := hx i (by omega)
      rw [he] at hc
      obtain ⟨y, hy, hq⟩ := ho enc W n cs' _ htr
      obtain ⟨_, hlen, hat⟩ := World.cells?_some hc
      refine ⟨y, ⟨cs', hy, ?_, fun j v hv => ?_⟩, hq⟩
      · have h0 := hat 0 hs
        have hlt : 0 < cs'.length := by omega
        rw [List.getElem?_eq_getElem hlt] at h0
        have hlt' := World.block_lt_of_cell? W _ h0
        have e0 : ((a.add (i * c.sz)).add 0).block = (a.add (i * c.sz)).block := by simp [Addr.add]
        rwa [e0] at hlt'
      · have hj : j < cs'.length := (List.getElem?_eq_some_iff.1 hv).1
        rw [hat j (by omega)]; exact hv
    obtain ⟨Y, hY⟩ := choose_lt key
    have hspot : 0 < len → a.spot = none := fun h0 => by
      obtain ⟨es, hrd, hbl, hc⟩ := (hY 0 h0).1
      have hl := c.len hrd
      have h1 := hc 0 es[0] (List.getElem?_eq_getElem (by omega))
      have e : (a.add (0 * c.sz)).add 0 = a := by simp [Addr.add]
      rw [e] at h1
      unfold World.cell? at h1
      cases hsp : a.spot with
      | none => rfl
      | some s => simp [hsp] at h1; split at h1 <;> simp at h1
    refine ⟨(List.range len).map Y, ⟨some a, cap, by simp, by simpa using hl, fun k hk => ?_⟩, (List.range len).map fun i => Rows.uptoBulk (D i), by simp, fun i h h' => ?_, ?_⟩
    · have hk' : k < len := by simpa using hk
      obtain ⟨es, hrd, hbl, hc⟩ := (hY k hk').1
      have ha : a = ⟨a.block, a.off, none⟩ := by rw [← hspot (by omega)]
      refine ⟨a.block, a.off, es, by rw [← ha], ?_, fun j v hv => ?_, by simpa using hrd⟩
      · have : (a.add (k * c.sz)).block = a.block := by unfold Addr.add; split <;> rfl
        rw [this] at hbl; exact hbl
      · have := hc j v hv
        rw [Go.Deep.add_add, ha, Addr.add_mid] at this
        rw [← Nat.add_assoc] at this
        exact this
    · have hi : i < len := by simpa using h
      simpa using (hY i hi).2
    · simp only [Rows.uptoBulk, bulkAll_sum, List.map_map]
      have : ((List.range len).map (Rows.uptoBulk ∘ D)) = (List.range len).map fun i => Rows.uptoBulk (D i) := rfl
      rw [this]
      omega
section
variable {H : Type} {enc : TypeId × Value → H} {P : Program}
theorem post_of_below {f : Func} {s : ChangeSpec} {apart fresh handsOn again : Bool} {W W' : World} {args : Array Value} {v : Value} {ds gs : List (DataW H)} {before pa pv : List MemPlace}
    (hW : DataW.Whole enc P f.params.toList s.vars apart W args.toList ds gs before)
    (hres : ∀ (b : Nat) (sp : Nat → Bool) (hd : Bool), DataW.TrodAll enc P W' b sp hd f.resultTypes.toList (v.resultList f.resultTypes.size) (s.fn H (ds ++ gs)).results [])
    (hargs : ∀ sp : Nat → Bool, (∀ p ∈ before, sp p.block = true) → DataW.TrodAll enc P W' 0 sp true f.params.toList args.toList (s.fn H (ds ++ gs)).args pa)
    (hvars : ∀ sp : Nat → Bool, (∀ p ∈ before, sp p.block = true) → DataW.TrodVars enc P W' sp s.vars (s.fn H (ds ++ gs)).vars pv)
    (hps : before = pa ++ pv) (hb : Below W.heap.size W W')
    (hok : ∀ (j : Nat) (t : TypeId) (r : Value), f.resultTypes[j]? = some t → (v.resultList f.resultTypes.size)[j]? = some r → Value.okWide P W' .any 0 t r) :
    s.post enc P f apart fresh handsOn again W args v W' := by
  have hlt : ∀ p ∈ before, p.block < W.heap.size := fun p hp => hW.lt p hp
  have hold : ∀ p ∈ before, (fun b => decide (b < W.heap.size)) p.block = true := fun p hp => by simpa using hlt p hp
  refine ⟨ds, gs, before, [], pa, pv, hW, hres _ _ _, hargs _ hold, hvars _ hold, World.keptBut_mono (fun p hp => ⟨hp, ?_⟩) (hb.frame (· ∈ before)), fun _ => ?_⟩
  · rw [hps, List.mem_append] at hp
    exact Or.inr hp
  · obtain ⟨_, _, _, _, _, hz, hn⟩ := hW
    refine ⟨hok, _, _, ([] ++ pa) ++ pv, ⟨[] ++ pa, pv, trodAll_append (hargs _ (fun _ _ => rfl)) (hres _ _ _), hvars _ (fun _ _ => rfl), rfl, ?_, ?_⟩, ?_⟩
    · intro b off hp
      have hin : MemPlace.cell b off ∈ before := by rw [hps]; simpa using hp
      rw [hb.frozen (hlt _ hin)]
      exact hz b off hin
    · intro ha
      have := hn ha
      rw [hps] at this
      simpa using this
    · intro p hp _
      rw [hps]
      simpa using hp
end
end Go.Proofs.YtcegmpijknpgeaaDoor
