/- What is proved: a list of records that the form reads as data reads as plain records, whose sizes its bulk bounds. Conditions: none. -/
import Derived.Test.YtjmdhakndlhbhaaOpen
import Derived.Test.YtjmdhakndlhbhaaRecData
set_option linter.unusedSimpArgs false
set_option linter.unusedVariables false
namespace Go.Proofs.Ytjmdhakndlhbhaa
open Go Go.J Go.RowKit Go.ChangeShapes Go.WideShapes Go.Deep

instance : Inhabited Chg := ⟨⟨[], 0, ⟨0, []⟩, ⟨0, []⟩, ⟨0, []⟩, ⟨0, []⟩, ⟨0, []⟩, ⟨0, []⟩⟩⟩
instance : Inhabited Rec := ⟨⟨0, 0, 0, []⟩⟩
def cNd : Cod Nd := .flat (fun n => [.int .i64 n.kind, str n.data]) 2 fun _ => rfl
theorem size1 : Try.prog.cellsOf 9 = 1 ∧ Try.prog.cellsOf 3 = 1 ∧ Try.prog.cellsOf 55 = 2 ∧ Try.prog.cellsOf 56 = 6 ∧ Try.prog.cellsOf 58 = 14 ∧ Try.prog.cellsOf 28 = 4 ∧ Try.prog.cellsOf 26 = 1 := by refine ⟨?_, ?_, ?_, ?_, ?_, ?_, ?_⟩ <;> kernel_rfl

theorem list2 {α : Type} {l : List α} (h : l.length = 2) : ∃ a b, l = [a, b] := by match l, h with | [a, b], _ => exact ⟨a, b, rfl⟩
theorem list3 {α : Type} {l : List α} (h : l.length = 3) : ∃ a b c, l = [a, b, c] := by match l, h with | [a, b, c], _ => exact ⟨a, b, c, rfl⟩
theorem list4 {α : Type} {l : List α} (h : l.length = 4) : ∃ a b c d, l = [a, b, c, d] := by match l, h with | [a, b, c, d], _ => exact ⟨a, b, c, d, rfl⟩
theorem list14 {α : Type} {l : List α} (h : l.length = 14) : ∃ a b c d e f g i j k m n o p, l = [a, b, c, d, e, f, g, i, j, k, m, n, o, p] := by
  match l, h with | [a, b, c, d, e, f, g, i, j, k, m, n, o, p], _ => exact ⟨a, b, c, d, e, f, g, i, j, k, m, n, o, p, rfl⟩

theorem open_nd : Opens Try.prog 55 cNd (fun nd b => nd.data.length + 1 ≤ b) := by
  intro H enc W fuel cs x h
  obtain ⟨xs, n, _, rfl, hlen, hxl, hf⟩ := DataW.trod_struct Try.underlying55 h
  obtain ⟨x0, x1, rfl⟩ := list2 hxl
  obtain ⟨c0, c1, rfl⟩ := list2 (hlen.trans (by kernel_rfl))
  have h0 := hf 0 _ rfl
  have h1 := hf 1 _ rfl
  change DataW.trod enc Try.prog W 0 _ true n 3 [c0] = some x0 at h0
  change DataW.trod enc Try.prog W 0 _ true n 9 [c1] = some x1 at h1
  obtain ⟨k, e0, rfl, _⟩ := DataW.trod_int Try.underlying3 h0
  obtain ⟨s, e1, rfl, _⟩ := DataW.trod_string Try.underlying9 h1
  simp only [List.cons.injEq, and_true] at e0 e1
  subst e0 e1
  refine ⟨⟨k, s.data.toList⟩, rfl, ?_⟩
  simp [Rows.uptoBulk, Rows.uptoBulkAll]; omega
theorem list6 {α : Type} {l : List α} (h : l.length = 6) : ∃ a b c d e f, l = [a, b, c, d, e, f] := by match l, h with | [a, b, c, d, e, f], _ => exact ⟨a, b, c, d, e, f, rfl⟩
/-- three nodes in a row -/
theorem open_nd3 {H : Type} (enc : TypeId × Value → H) (W : World) (fuel : Nat) (cs : List Value) (x : DataW H × List MemPlace) (h : DataW.trod enc Try.prog W 0 (fun _ => true) true fuel 56 cs = some x) :
    ∃ n0 n1 n2 : Nd, cs = [.int .i64 n0.kind, str n0.data, .int .i64 n1.kind, str n1.data, .int .i64 n2.kind, str n2.data] ∧ n0.data.length + n1.data.length + n2.data.length ≤ Rows.uptoBulk x.1 := by
  obtain ⟨xs, m, _, rfl, hlen, hxl, hf⟩ := DataW.trod_array Try.underlying56 h
  obtain ⟨x0, x1, x2, rfl⟩ := list3 hxl
  obtain ⟨c0, c1, c2, c3, c4, c5, rfl⟩ := list6 (hlen.trans (by kernel_rfl))
  have h0 := hf 0 (by decide)
  have h1 := hf 1 (by decide)
  have h2 := hf 2 (by decide)
  change DataW.trod enc Try.prog W 0 _ true m 55 [c0, c1] = some x0 at h0
  change DataW.trod enc Try.prog W 0 _ true m 55 [c2, c3] = some x1 at h1
  change DataW.trod enc Try.prog W 0 _ true m 55 [c4, c5] = some x2 at h2
  obtain ⟨n0, e0, q0⟩ := open_nd enc W m _ _ h0
  obtain ⟨n1, e1, q1⟩ := open_nd enc W m _ _ h1
  obtain ⟨n2, e2, q2⟩ := open_nd enc W m _ _ h2
  change [c0, c1] = [.int .i64 n0.kind, str n0.data] at e0
  change [c2, c3] = [.int .i64 n1.kind, str n1.data] at e1
  change [c4, c5] = [.int .i64 n2.kind, str n2.data] at e2
  simp only [List.cons.injEq, and_true] at e0 e1 e2
  obtain ⟨rfl, rfl⟩ := e0
  obtain ⟨rfl, rfl⟩ := e1
  obtain ⟨rfl, rfl⟩ := e2
  refine ⟨n0, n1, n2, rfl, ?_⟩
  simp [Rows.uptoBulk, Rows.uptoBulkAll]; omega
theorem open_chg : Opens Try.prog 58 cChg (fun c b => chgSize c ≤ 16 * b) := by
  intro H enc W fuel cs x h
  obtain ⟨xs, n, _, rfl, hlen, hxl, hf⟩ := DataW.trod_struct Try.underlying58 h
  obtain ⟨x0, x1, x2, x3, rfl⟩ := list4 hxl
  obtain ⟨c0, c1, c2, c3, c4, c5, c6, c7, c8, c9, c10, c11, c12, c13, rfl⟩ := list14 (hlen.trans (by kernel_rfl))
  have h0 := hf 0 _ rfl
  have h1 := hf 1 _ rfl
  have h2 := hf 2 _ rfl
  have h3 := hf 3 _ rfl
  change DataW.trod enc Try.prog W 0 _ true n 9 [c0] = some x0 at h0
  change DataW.trod enc Try.prog W 0 _ true n 3 [c1] = some x1 at h1
  change DataW.trod enc Try.prog W 0 _ true n 56 [c2, c3, c4, c5, c6, c7] = some x2 at h2
  change DataW.trod enc Try.prog W 0 _ true n 56 [c8, c9, c10, c11, c12, c13] = some x3 at h3
  obtain ⟨s, e0, rfl, _⟩ := DataW.trod_string Try.underlying9 h0
  obtain ⟨k, e1, rfl, _⟩ := DataW.trod_int Try.underlying3 h1
  obtain ⟨o0, o1, o2, e2, q2⟩ := open_nd3 enc W n _ _ h2
  obtain ⟨n0, n1, n2, e3, q3⟩ := open_nd3 enc W n _ _ h3
  simp only [List.cons.injEq, and_true] at e0 e1 e2 e3
  obtain rfl := e0
  obtain rfl := e1
  obtain ⟨rfl, rfl, rfl, rfl, rfl, rfl⟩ := e2
  obtain ⟨rfl, rfl, rfl, rfl, rfl, rfl⟩ := e3
  refine ⟨⟨s.data.toList, k, o0, o1, o2, n0, n1, n2⟩, rfl, ?_⟩
  simp only [chgSize, Rows.uptoBulk, Rows.uptoBulkAll, List.map_cons, List.map_nil]
  split <;> split <;> omega
theorem open_chgs : Opens Try.prog 26 (cSl cChg) (QL fun c b => chgSize c ≤ 16 * b) := Opens.slice Try.underlying26 (by kernel_rfl) (by decide) open_chg
theorem ql_chgs : ∀ (cs : List Chg) (b : Nat), QL (fun c b => chgSize c ≤ 16 * b) cs b → chgsSize cs ≤ 64 * b
  | cs, b, ⟨bs, hl, hq, hs⟩ => by
    have : chgsSize cs ≤ 64 + 16 * bs.sum := by
      clear hs
      induction cs generalizing bs with
      | nil => simp [chgsSize]
      | cons c cs ih =>
        match bs, hl with
        | b0 :: bs, hl =>
          have h0 := hq 0 (by simp) (by simp)
          simp only [List.getElem_cons_zero] at h0
          have := ih bs (by simpa using hl) fun i h h' => by have := hq (i + 1) (by simpa using h) (by simpa using h'); simpa using this
          simp only [chgsSize, List.sum_cons]
          omega
    omega
theorem open_rec : Opens Try.prog 28 cRec (fun r b => recSize r ≤ 64 * b) := by
  intro H enc W fuel cs x h
  obtain ⟨xs, n, _, rfl, hlen, hxl, hf⟩ := DataW.trod_struct Try.underlying28 h
  obtain ⟨x0, x1, x2, x3, rfl⟩ := list4 hxl
  obtain ⟨c0, c1, c2, c3, rfl⟩ := list4 (hlen.trans (by kernel_rfl))
  have h0 := hf 0 _ rfl
  have h1 := hf 1 _ rfl
  have h2 := hf 2 _ rfl
  have h3 := hf 3 _ rfl
  change DataW.trod enc Try.prog W 0 _ true n 3 [c0] = some x0 at h0
  change DataW.trod enc Try.prog W 0 _ true n 3 [c1] = some x1 at h1
  change DataW.trod enc Try.prog W 0 _ true n 3 [c2] = some x2 at h2
  change DataW.trod enc Try.prog W 0 _ true n 26 [c3] = some x3 at h3
  obtain ⟨k0, e0, rfl, _⟩ := DataW.trod_int Try.underlying3 h0
  obtain ⟨k1, e1, rfl, _⟩ := DataW.trod_int Try.underlying3 h1
  obtain ⟨k2, e2, rfl, _⟩ := DataW.trod_int Try.underlying3 h2
  obtain ⟨ys, ⟨A, cap, e3, hcap, hsl⟩, q3⟩ := open_chgs enc W n _ _ h3
  simp only [List.cons.injEq, and_true] at e0 e1 e2 e3
  subst e0 e1 e2 e3
  refine ⟨⟨k0, k1, k2, ys⟩, ⟨A, cap, rfl, hcap, hsl⟩, ?_⟩
  have := ql_chgs _ _ q3
  simp only [recSize, Rows.uptoBulk, Rows.uptoBulkAll, List.map_cons, List.map_nil]
  omega
theorem open_recs : Opens Try.prog 22 (cSl cRec) (fun rs b => sumSz rs ≤ 64 * b) := by
  intro H enc W fuel cs x h
  have ho : Opens Try.prog 22 (cSl cRec) (QL fun r b => recSize r ≤ 64 * b) := Opens.slice Try.underlying22 (by kernel_rfl) (by decide) open_rec
  obtain ⟨rs, h1, bs, hl, hq, hs⟩ := ho enc W fuel cs x h
  refine ⟨rs, h1, ?_⟩
  have : sumSz rs ≤ 64 * bs.sum := by
    clear hs h1
    induction rs generalizing bs with
    | nil => simp [sumSz]
    | cons c cs ih =>
      match bs, hl with
      | b0 :: bs, hl =>
        have h0 := hq 0 (by simp) (by simp)
        simp only [List.getElem_cons_zero] at h0
        have := ih bs (by simpa using hl) fun i h h' => by have := hq (i + 1) (by simpa using h) (by simpa using h'); simpa using this
        simp only [sumSz, List.sum_cons]
        omega
  omega
end Go.Proofs.Ytjmdhakndlhbhaa
