/- What is proved: what is known of memory during a walk (chunks that the call owns, snapshots that stay), and how each operation on memory turns it. Conditions: as each rule names them. -/
import Derived.Test.YtcegmpijknpgeaaDoorJP
set_option linter.unusedSimpArgs false
set_option linter.unusedVariables false
namespace Go.J
open Go Go.RowKit

/-- w' is w but for the blocks 'fp' and for new ones -/
structure Upd (fp : List Nat) (w w' : World) : Prop where
  os : w'.os = w.os
  tape : w'.tape = w.tape
  output : w'.output = w.output
  size : w.heap.size ≤ w'.heap.size
  block : ∀ b, b < w.heap.size → b ∉ fp → w'.heap[b]? = w.heap[b]?

theorem Upd.refl (fp : List Nat) (w : World) : Upd fp w w := ⟨rfl, rfl, rfl, Nat.le_refl _, fun _ _ _ => rfl⟩
theorem Upd.trans {fp : List Nat} {a b c : World} (h : Upd fp a b) (k : Upd fp b c) : Upd fp a c :=
  ⟨k.os.trans h.os, k.tape.trans h.tape, k.output.trans h.output, Nat.le_trans h.size k.size, fun i hi hn => (k.block i (Nat.lt_of_lt_of_le hi h.size) hn).trans (h.block i hi hn)⟩
theorem Upd.mono {fp fp' : List Nat} {w w' : World} (h : Upd fp w w') (hs : ∀ b ∈ fp, b ∈ fp') : Upd fp' w w' :=
  ⟨h.os, h.tape, h.output, h.size, fun b hb hn => h.block b hb fun hm => hn (hs b hm)⟩
theorem Upd.drew (fp : List Nat) (w : World) : Upd fp w w.drew := ⟨rfl, rfl, rfl, Nat.le_refl _, fun _ _ _ => rfl⟩
theorem Upd.alloc (fp : List Nat) (w : World) (o : Obj) : Upd fp w (w.alloc o) := ⟨rfl, rfl, rfl, by simp, fun b hb _ => Below.heap_alloc w o b hb⟩
theorem Upd.of_grown {w w' : World} {r : Option Nat} (h : w.grownBy w' r) : Upd r.toList w w' :=
  ⟨h.os, h.tape, h.output, h.size, fun b hb hn => h.block b hb (fun e => hn (by rw [← e]; simp))⟩
theorem Upd.below {w w' : World} (h : Upd [] w w') : Below w.heap.size w w' := ⟨h.os, h.tape, h.output, h.size, fun k hk => h.block k hk (by simp)⟩
theorem Upd.of_below {w w' : World} (h : Below w.heap.size w w') : Upd [] w w' := ⟨h.os, h.tape, h.output, h.size, fun k hk _ => h.block k hk⟩

/-- all blocks that are there -/
def Old (w : World) : Nat → Prop := fun b => b < w.heap.size

/-- a row of n elements that a slice value owns, from its place on to the end of its room -/
def RowAt (w : World) (e : TypeId) (size : Nat) (v : Value) (n : Nat) (xs : List Value) : Prop :=
  xs.length = n * size ∧ ((v = .slice none 0 0 ∧ n = 0) ∨ ∃ g off cap cur, v = .slice (some ⟨g, off, none⟩) n cap ∧ w.heap[g]? = some (.cells ⟨cur⟩ e (0, 0)) ∧ n ≤ cap ∧ cap ≤ maxLen ∧ off + cap * size ≤ cur.length ∧ (cur.drop off).take (n * size) = xs)
theorem RowAt.of_owns {w : World} {base : Nat} {e : TypeId} {size : Nat} {v : Value} {n : Nat} {xs : List Value} (h : w.ownsRow base e size v n xs) : RowAt w e size v n xs := by
  obtain ⟨h1, h2⟩ := h
  refine ⟨h1, ?_⟩
  rcases h2 with h2 | ⟨g, cap, cur, rfl, hb, hh, hn, hc, hs, ht⟩
  · exact .inl h2
  · exact .inr ⟨g, 0, cap, cur.toList, rfl, hh, hn, hc, by simp; omega, by simpa using ht⟩
theorem RowAt.cells {w : World} {e : TypeId} {size n n' cap g off : Nat} {xs : List Value} (h : RowAt w e size (.slice (some ⟨g, off, none⟩) n cap) n' xs) : ∀ j u, xs[j]? = some u → w.cell? ⟨g, off + j, none⟩ = some u := by
  intro j u hu
  rcases h.2 with ⟨h0, _⟩ | ⟨g', off', cap', cur, h0, hh, hn, hc, hs, ht⟩
  · cases h0
  · simp only [Value.slice.injEq, Option.some.injEq, Addr.mk.injEq, and_true] at h0
    obtain ⟨⟨rfl, rfl⟩, rfl, rfl⟩ := h0
    rw [cell_of_row w g (off + j) ⟨cur⟩ e (0, 0) hh]
    rw [← ht, List.getElem?_take] at hu
    split at hu
    · rw [List.getElem?_drop] at hu; simpa using hu
    · cases hu

structure Snap where
  w : World
  F : Nat → Prop

inductive Chunk where
  | box (b : Nat) (t : TypeId) (cs : List Value)
  | own (v : Value) (e : TypeId) (size n : Nat) (xs : List Value)
  | obj (fp : List Nat) (p : World → Prop)

def Chunk.fp : Chunk → List Nat
  | .box b _ _ => [b]
  | .own v _ _ _ _ => v.ownBlock.toList
  | .obj fp _ => fp
def Local (fp : List Nat) (p : World → Prop) : Prop := ∀ w w' : World, (∀ b ∈ fp, w'.heap[b]? = w.heap[b]?) → p w → p w'
def Chunk.holds : Chunk → World → Prop
  | .box b t cs, w => w.heap[b]? = some (.cells ⟨cs⟩ t (0, 0))
  | .own v e size n xs, w => RowAt w e size v n xs
  | .obj fp p, w => p w ∧ Local fp p

theorem Chunk.keep {c : Chunk} {w w' : World} (h : c.holds w) (hs : ∀ b ∈ c.fp, w'.heap[b]? = w.heap[b]?) : c.holds w' := by
  cases c with
  | box b t cs => exact (hs b (by simp [Chunk.fp])).trans h
  | own v e size n xs =>
    obtain ⟨h1, h2⟩ := h
    refine ⟨h1, ?_⟩
    rcases h2 with h2 | ⟨g, off, cap, cur, rfl, hh, r⟩
    · exact .inl h2
    · exact .inr ⟨g, off, cap, cur, rfl, (hs g (by simp [Chunk.fp, Value.ownBlock])).trans hh, r⟩
  | obj fp p => exact ⟨h.2 w w' hs h.1, h.2⟩

def Chunk.apart (c d : Chunk) : Prop := ∀ b ∈ c.fp, b ∉ d.fp
theorem Chunk.apart_symm {c d : Chunk} (h : c.apart d) : d.apart c := fun b h1 h2 => h b h2 h1

structure St (w0 : World) (M : List Nat) (w : World) (H : List Chunk) (Z : List Snap) : Prop where
  upd : Upd M w0 w
  holds : ∀ c ∈ H, c.holds w
  inb : ∀ c ∈ H, ∀ b ∈ c.fp, b < w.heap.size ∧ (w0.heap.size ≤ b ∨ b ∈ M)
  disj : H.Pairwise Chunk.apart
  snap : ∀ z ∈ Z, ∀ b, z.F b → b < w.heap.size ∧ w.heap[b]? = z.w.heap[b]? ∧ ∀ c ∈ H, b ∉ c.fp

inductive Repl (c c' : Chunk) : List Chunk → List Chunk → Prop where
  | here {r : List Chunk} : Repl c c' (c :: r) (c' :: r)
  | there {d : Chunk} {r r' : List Chunk} : Repl c c' r r' → Repl c c' (d :: r) (d :: r')

section
variable {w0 w w' : World} {M : List Nat} {H H' : List Chunk} {Z : List Snap} {c c' : Chunk}

theorem Repl.mem (h : Repl c c' H H') : c ∈ H := by induction h with | here => simp | there _ ih => simp [ih]
theorem Repl.mem' (h : Repl c c' H H') : ∀ d ∈ H', d = c' ∨ d ∈ H := by
  induction h with
  | here => intro d hd; simp at hd; rcases hd with rfl | hd <;> simp [*]
  | there _ ih =>
    intro d hd
    simp only [List.mem_cons] at hd
    rcases hd with rfl | hd
    · simp
    · rcases ih d hd with h | h <;> simp [h]
theorem Repl.pairwise (h : Repl c c' H H') (hp : H.Pairwise Chunk.apart) (hc : ∀ d ∈ H, c.apart d → c'.apart d) : H'.Pairwise Chunk.apart := by
  induction h with
  | here =>
    rw [List.pairwise_cons] at hp ⊢
    exact ⟨fun d hd => hc d (by simp [hd]) (hp.1 d hd), hp.2⟩
  | @there d r r' h' ih =>
    rw [List.pairwise_cons] at hp ⊢
    refine ⟨fun e he => ?_, ih hp.2 fun e he => hc e (by simp [he])⟩
    rcases h'.mem' e he with rfl | he
    · exact Chunk.apart_symm (hc d (by simp) (Chunk.apart_symm (hp.1 c h'.mem)))
    · exact hp.1 e he
/-- the others are as they were -/
theorem Repl.others (h : Repl c c' H H') (hp : H.Pairwise Chunk.apart) : ∀ d ∈ H', d = c' ∨ (d ∈ H ∧ c.apart d) := by
  induction h with
  | here =>
    rw [List.pairwise_cons] at hp
    intro d hd; simp at hd
    rcases hd with rfl | hd
    · exact .inl rfl
    · exact .inr ⟨by simp [hd], hp.1 d hd⟩
  | @there d r r' h' ih =>
    rw [List.pairwise_cons] at hp
    intro e he
    simp only [List.mem_cons] at he
    rcases he with rfl | he
    · exact .inr ⟨by simp, Chunk.apart_symm (hp.1 c h'.mem)⟩
    · rcases ih hp.2 e he with h1 | ⟨h1, h2⟩
      · exact .inl h1
      · exact .inr ⟨by simp [h1], h2⟩

theorem St.init (w : World) : St w [] w [] [⟨w, Old w⟩] :=
  ⟨.refl _ _, by simp, by simp, .nil, fun z hz b hb => by simp at hz; subst hz; exact ⟨hb, rfl, by simp⟩⟩

theorem St.upd0 (h : St w0 M w H Z) (hu : Upd [] w w') : St w0 M w' H Z where
  upd := h.upd.trans (hu.mono (by simp))
  holds := fun c hc => Chunk.keep (h.holds c hc) fun b hb => hu.block b (h.inb c hc b hb).1 (by simp)
  inb := fun c hc b hb => ⟨Nat.lt_of_lt_of_le (h.inb c hc b hb).1 hu.size, (h.inb c hc b hb).2⟩
  disj := h.disj
  snap := fun z hz b hb => by
    obtain ⟨h1, h2, h3⟩ := h.snap z hz b hb
    exact ⟨Nat.lt_of_lt_of_le h1 hu.size, (hu.block b h1 (by simp)).trans h2, h3⟩
theorem St.drew (h : St w0 M w H Z) : St w0 M w.drew H Z := h.upd0 (.drew _ _)

/-- a snapshot of what is new -/
def fresh (w w' : World) : Nat → Prop := fun b => w.heap.size ≤ b ∧ b < w'.heap.size
theorem St.fresh (h : St w0 M w H Z) (hu : Upd [] w w') : St w0 M w' H (⟨w', fresh w w'⟩ :: Z) :=
  let h' := h.upd0 hu
  ⟨h'.upd, h'.holds, h'.inb, h'.disj, fun z hz b hb => by
      rcases List.mem_cons.1 hz with rfl | hz
      · exact ⟨hb.2, rfl, fun c hc hm => by have := (h.inb c hc b hm).1; have := hb.1; omega⟩
      · exact h'.snap z hz b hb⟩

theorem St.push (h : St w0 M w H Z) (hu : Upd [] w w') (hc : c.holds w') (hf : ∀ b ∈ c.fp, w.heap.size ≤ b ∧ b < w'.heap.size) : St w0 M w' (c :: H) Z :=
  let h' := h.upd0 hu
  { upd := h'.upd
    holds := fun d hd => by
      rcases List.mem_cons.1 hd with rfl | hd
      · exact hc
      · exact h'.holds d hd
    inb := fun d hd b hb => by
      rcases List.mem_cons.1 hd with rfl | hd
      · exact ⟨(hf b hb).2, .inl (Nat.le_trans h.upd.size (hf b hb).1)⟩
      · exact h'.inb d hd b hb
    disj := List.pairwise_cons.2 ⟨fun d hd b hb hm => by have := (hf b hb).1; have := (h.inb d hd b hm).1; omega, h.disj⟩
    snap := fun z hz b hb => by
      obtain ⟨h1, h2, h3⟩ := h'.snap z hz b hb
      refine ⟨h1, h2, fun d hd => ?_⟩
      rcases List.mem_cons.1 hd with rfl | hd
      · intro hm
        have := (hf b hm).1
        have := (h.snap z hz b hb).1
        omega
      · exact h3 d hd }

theorem St.step (h : St w0 M w H Z) (hr : Repl c c' H H') (hu : Upd c.fp w w') (hc : c'.holds w') (hf : ∀ b ∈ c'.fp, b ∈ c.fp ∨ (w.heap.size ≤ b ∧ b < w'.heap.size)) : St w0 M w' H' Z := by
  have ho := hr.others h.disj
  have hcm := hr.mem
  refine ⟨?_, ?_, ?_, ?_, ?_⟩
  · exact ⟨hu.os.trans h.upd.os, hu.tape.trans h.upd.tape, hu.output.trans h.upd.output, Nat.le_trans h.upd.size hu.size, fun b hb hn => by
      have hn' : b ∉ c.fp := fun hm => by
        rcases (h.inb c hcm b hm).2 with h1 | h1
        · omega
        · exact hn h1
      exact (hu.block b (Nat.lt_of_lt_of_le hb h.upd.size) hn').trans (h.upd.block b hb hn)⟩
  · intro d hd
    rcases ho d hd with rfl | ⟨hd, ha⟩
    · exact hc
    · exact Chunk.keep (h.holds d hd) fun b hb => hu.block b (h.inb d hd b hb).1 (Chunk.apart_symm ha b hb)
  · intro d hd b hb
    rcases ho d hd with rfl | ⟨hd, _⟩
    · rcases hf b hb with h1 | h1
      · exact ⟨Nat.lt_of_lt_of_le (h.inb c hcm b h1).1 hu.size, (h.inb c hcm b h1).2⟩
      · exact ⟨h1.2, .inl (Nat.le_trans h.upd.size h1.1)⟩
    · exact ⟨Nat.lt_of_lt_of_le (h.inb d hd b hb).1 hu.size, (h.inb d hd b hb).2⟩
  · refine hr.pairwise h.disj fun d hd ha b hb hm => ?_
    rcases hf b hb with h1 | h1
    · exact ha b h1 hm
    · have := (h.inb d hd b hm).1; omega
  · intro z hz b hb
    obtain ⟨h1, h2, h3⟩ := h.snap z hz b hb
    refine ⟨Nat.lt_of_lt_of_le h1 hu.size, (hu.block b h1 (h3 c hcm)).trans h2, fun d hd hm => ?_⟩
    rcases ho d hd with rfl | ⟨hd, _⟩
    · rcases hf b hm with h4 | h4
      · exact h3 c hcm h4
      · omega
    · exact h3 d hd hm

theorem St.drop (h : St w0 M w (c :: H) Z) : St w0 M w H Z where
  upd := h.upd
  holds := fun d hd => h.holds d (by simp [hd])
  inb := fun d hd => h.inb d (by simp [hd])
  disj := (List.pairwise_cons.1 h.disj).2
  snap := fun z hz b hb => by
    obtain ⟨h1, h2, h3⟩ := h.snap z hz b hb
    exact ⟨h1, h2, fun d hd => h3 d (by simp [hd])⟩
end
end Go.J
