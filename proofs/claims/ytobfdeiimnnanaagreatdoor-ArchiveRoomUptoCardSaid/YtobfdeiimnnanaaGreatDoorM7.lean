/- What is proved: contracts and plain facts that the law leans on (texts put together). Conditions: as each names them. -/
import Derived.Test.YtobfdeiimnnanaaGreatDoorM6
import Derived.Lib.LaidTab
import Derived.Stop.LaidErr
/- What is proved: how the laws' arguments read; the table that is laid. Conditions: none. -/
set_option linter.unusedSimpArgs false
set_option linter.unusedVariables false
namespace Go.Proofs.YtobfdeiimnnanaaGreatDoor
open Go Go.J Go.RowKit

def QEnt (e : Ent) (b : Nat) : Prop := e.path.length + e.data.length + 3 ≤ b
theorem list2S {α : Type} {l : List α} (h : l.length = 2) : ∃ a b, l = [a, b] := by match l, h with | [a, b], _ => exact ⟨a, b, rfl⟩
theorem list3S {α : Type} {l : List α} (h : l.length = 3) : ∃ a b c, l = [a, b, c] := by match l, h with | [a, b, c], _ => exact ⟨a, b, c, rfl⟩
/-- a node: kind and data -/
def NodeRd (cs : List Value) (b : Nat) : Prop := ∃ (k : Int) (d : List UInt8), cs = [.int .i64 k, str d] ∧ -9223372036854775808 ≤ k ∧ k ≤ 9223372036854775807 ∧ d.length + 2 ≤ b
set_option maxRecDepth 100000 in
theorem open_node {H : Type} (enc : TypeId × Value → H) (W : World) (fuel : Nat) (cs : List Value) (x : DataW H × List MemPlace) (h : DataW.trod enc Tryz.prog W 0 (fun _ => true) true fuel 26 cs = some x) : NodeRd cs (Rows.uptoBulk x.1) := by
  obtain ⟨xs, n, _, rfl, hlen, hxl, hf⟩ := DataW.trod_struct Tryz.underlying26 h
  obtain ⟨x0, x1, rfl⟩ := list2S hxl
  obtain ⟨c0, c1, rfl⟩ := list2S (hlen.trans (by kernel_rfl))
  obtain ⟨s0, e0, q0⟩ := Opens.int Tryz.underlying3 enc W n [c0] x0 (hf 0 _ rfl)
  obtain ⟨s1, e1, q1⟩ := Opens.str Tryz.underlying9 enc W n [c1] x1 (hf 1 _ rfl)
  have e0 : [c0] = [.int .i64 s0] := e0
  have e1 : [c1] = [str s1] := e1
  simp only [List.cons.injEq, and_true] at e0 e1
  subst e0 e1
  refine ⟨s0, s1, rfl, q0.1, q0.2.1, ?_⟩
  simp [Rows.uptoBulk, Rows.uptoBulkAll] at *
  omega
set_option maxRecDepth 100000 in
theorem open_ent : Opens Tryz.prog 115 cEnt QEnt := by
  intro H enc W fuel cs x h
  obtain ⟨xs, n, _, rfl, hlen, hxl, hf⟩ := DataW.trod_struct Tryz.underlying115 h
  obtain ⟨x0, x1, rfl⟩ := list2S hxl
  obtain ⟨c0, c1, c2, rfl⟩ := list3S (hlen.trans (by kernel_rfl))
  obtain ⟨s0, e0, q0⟩ := Opens.str Tryz.underlying9 enc W n [c0] x0 (hf 0 _ rfl)
  obtain ⟨k, d, e1, _, _, q1⟩ := open_node enc W n [c1, c2] x1 (hf 1 _ rfl)
  have e0 : [c0] = [str s0] := e0
  simp only [List.cons.injEq, and_true] at e0 e1
  obtain ⟨e1, e2⟩ := e1
  subst e0 e1 e2
  refine ⟨⟨s0, k, d⟩, rfl, ?_⟩
  unfold QEnt
  simp [Rows.uptoBulk, Rows.uptoBulkAll] at *
  omega
instance : Inhabited Ent := ⟨⟨[], 0, []⟩⟩
theorem arg_ents : Arg Tryz.prog 34 (ASl cEnt) (QL QEnt) := Arg.slice Tryz.underlying34 (Opens.slice Tryz.underlying34 (by kernel_rfl) (by decide) open_ent)
/-- each one is within the bulk, and so is their number -/
theorem ql_each {α : Type} {Q : α → Nat → Prop} {ys : List α} {b : Nat} (h : QL Q ys b) (h1 : ∀ y n, Q y n → 1 ≤ n) : (∀ y ∈ ys, ∃ n, n ≤ b ∧ Q y n) ∧ ys.length ≤ b := by
  obtain ⟨bs, hl, hq, hs⟩ := h
  have hsum : ∀ bs : List Nat, (∀ n ∈ bs, n ≤ bs.sum) := by
    intro bs
    induction bs with
    | nil => intro n hn; cases hn
    | cons a l ih =>
      intro n hn
      rw [List.sum_cons]
      rcases List.mem_cons.1 hn with rfl | hn
      · omega
      · have := ih n hn; omega
  have hcnt : ∀ bs : List Nat, (∀ n ∈ bs, 1 ≤ n) → bs.length ≤ bs.sum := by
    intro bs
    induction bs with
    | nil => intro _; exact Nat.zero_le _
    | cons a l ih =>
      intro hn
      rw [List.sum_cons, List.length_cons]
      have := ih fun n h => hn n (List.mem_cons_of_mem _ h)
      have := hn a (List.mem_cons_self ..)
      omega
  refine ⟨fun y hy => ?_, ?_⟩
  · obtain ⟨i, hi, rfl⟩ := List.getElem_of_mem hy
    have hi' : i < bs.length := by omega
    exact ⟨bs[i], by have := hsum bs _ (List.getElem_mem hi'); omega, hq i hi hi'⟩
  · have := hcnt bs fun n hn => by
      obtain ⟨i, hi, rfl⟩ := List.getElem_of_mem hn
      exact h1 _ _ (hq i (by omega) hi)
    omega
theorem ents_each {y : List Ent} {b : Nat} (q : QL QEnt y b) (hb : b ≤ 1048576) : (∀ e ∈ y, e.path.length ≤ 1048576) ∧ y.length ≤ 1048576 := by
  obtain ⟨e0, l0⟩ := ql_each q fun y n h => (by unfold QEnt at h; omega)
  exact ⟨fun e he => by obtain ⟨n, hn, h⟩ := e0 e he; unfold QEnt at h; omega, by omega⟩
end Go.Proofs.YtobfdeiimnnanaaGreatDoor

/- What is proved: the key of ArchiveRoom: with the table laid, the law answers true. Conditions: the statement's own bound on the bulk. -/
set_option linter.unusedSimpArgs false
set_option linter.unusedVariables false
namespace Go.Proofs.YtobfdeiimnnanaaGreatDoor
open Go Go.J Go.RowKit

set_option maxRecDepth 100000 in
theorem pow_archiveRoom (W : World) (h : laidMet Tryz.prog Rows.archiveRoomUptoRow.laid W) : powT W := by
  obtain ⟨a, b, r, he⟩ : ∃ a b r, Rows.archiveRoomUptoRow.laid = a :: b :: ("internal/strconv.uint64pow10", Lib.tabData .u64 Lib.pow10Tab) :: r := ⟨_, _, _, rfl⟩
  rw [he] at h
  have h1 := laidMet.tail (laidMet.tail h)
  exact Lib.tabIs_of_head (g := 3) (t := 299) (e := 178) (n := 20) (by kernel_rfl) (by kernel_rfl) (by kernel_rfl) (by kernel_rfl) (by kernel_rfl) (by kernel_rfl) h1
theorem archiveRoom.key_archiveRoom (W : World) (hL : laidMet Tryz.prog Rows.archiveRoomUptoRow.laid W) (v0 v1 : Value) (y0 y1 : List Ent) (b0 b1 : Nat) (h0 : ASl cEnt W v0 y0) (h1 : ASl cEnt W v1 y1) (q0 : QL QEnt y0 b0) (q1 : QL QEnt y1 b1) (hb : b0 + b1 ≤ 1048576) :
    Cal Tryz.prog 4 [v0, v1] W (fun v W' => Upd [] W W' ∧ v = .bool true) := by
  obtain ⟨A0, c0, rfl, k0, h0⟩ := h0
  obtain ⟨A1, c1, rfl, k1, h1⟩ := h1
  obtain ⟨z0, l0⟩ := ents_each q0 (by omega)
  obtain ⟨z1, l1⟩ := ents_each q1 (by omega)
  exact archiveRoom_c y0 y1 h0 h1 k0 k1 z0 z1 l0 l1 (pow_archiveRoom W hL)
end Go.Proofs.YtobfdeiimnnanaaGreatDoor

/- What is proved: the key of ArchiveBits: with the table laid, the law answers true. Conditions: the statement's own bound on the bulk. -/
set_option linter.unusedSimpArgs false
set_option linter.unusedVariables false
namespace Go.Proofs.YtobfdeiimnnanaaGreatDoor
open Go Go.J Go.RowKit

set_option maxRecDepth 100000 in
theorem pow_archiveBits (W : World) (h : laidMet Tryz.prog Rows.archiveBitsUptoRow.laid W) : powT W := by
  obtain ⟨a, b, r, he⟩ : ∃ a b r, Rows.archiveBitsUptoRow.laid = a :: b :: ("internal/strconv.uint64pow10", Lib.tabData .u64 Lib.pow10Tab) :: r := ⟨_, _, _, rfl⟩
  rw [he] at h
  have h1 := laidMet.tail (laidMet.tail h)
  exact Lib.tabIs_of_head (g := 3) (t := 299) (e := 178) (n := 20) (by kernel_rfl) (by kernel_rfl) (by kernel_rfl) (by kernel_rfl) (by kernel_rfl) (by kernel_rfl) h1
theorem archiveBits.key_archiveBits (W : World) (hL : laidMet Tryz.prog Rows.archiveBitsUptoRow.laid W) (v0 v1 v2 : Value) (y0 y1 : List Ent) (y2 : Int) (b0 b1 b2 : Nat) (h0 : ASl cEnt W v0 y0) (h1 : ASl cEnt W v1 y1) (h2 : AInt W v2 y2) (q0 : QL QEnt y0 b0) (q1 : QL QEnt y1 b1) (q2 : QInt y2 b2) (hb : b0 + b1 + b2 ≤ 1048576) :
    Cal Tryz.prog 5 [v0, v1, v2] W (fun v W' => Upd [] W W' ∧ v = .bool true) := by
  obtain ⟨A0, c0, rfl, k0, h0⟩ := h0
  obtain ⟨A1, c1, rfl, k1, h1⟩ := h1
  obtain rfl := h2
  obtain ⟨z0, l0⟩ := ents_each q0 (by omega)
  obtain ⟨z1, l1⟩ := ents_each q1 (by omega)
  exact archiveBits_c y0 y1 y2 h0 h1 k0 k1 z0 z1 l0 l1 (pow_archiveBits W hL)
end Go.Proofs.YtobfdeiimnnanaaGreatDoor
