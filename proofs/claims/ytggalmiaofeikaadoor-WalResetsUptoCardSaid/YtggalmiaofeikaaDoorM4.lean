/- What is proved: contracts and plain facts that the law leans on (texts put together). Conditions: as each names them. -/
import Derived.Test.YtggalmiaofeikaaDoorM3
import Derived.Shelf.SlIter.Nil
import Derived.Shelf.SortM.Plain
import Derived.Shelf.SortM.SortNone
import Derived.Test.YtggalmiaofeikaaDoorProg
/-
  DERIVED: THE SHELF's CONTRACTS AT THIS DUMP, IN PLAIN WORDS (tools/lay-plain.mjs out of 'TrydShelf.lean', which tools/lay-shelf.mjs wrote): THE SAME DECLARATIONS UNDER THE SAME NAMES: 'import', 'namespace', 'open', 'def', 'theorem' AND NOTHING ELSE: no command of the shelf's: FOR A HAND-IN. Each laying: the table of numbers ('.._ren') and one theorem, a field a fact of the dump's own or the kernel's comparison; each contract: ONE APPLICATION.
-/
namespace Go.Proofs
open Go.Shelf
def Tryd.keysL_ren : Go.Shelf.Ren := ⟨fun | 7 => 33 | 10 => 48 | n => n, fun | 23 => 54 | 26 => 9 | 3 => 53 | 28 => 62 | 0 => 0 | 27 => 61 | 33 => 71 | 4 => 4 | n => n, fun | n => n⟩
theorem Tryd.keysL : Go.Proofs.SlLaysZ.n7 Tryd.prog Tryd.keysL_ren := {
  mixed := by kernel_rfl
  f7 := ⟨Tryd.f33.name, by decide, Tryd.func33.trans (congrArg some (by kernel_rfl))⟩
  f10 := ⟨Tryd.f48.name, by decide, Tryd.func48.trans (congrArg some (by kernel_rfl))⟩
  t0 := Tryd.underlying0
  a0 := Tryd.isAgg0
  z0 := Tryd.sizeOf0
  v0 := Tryd.zeroValue0
  t4 := Tryd.underlying4
  a4 := Tryd.isAgg4
  z4 := Tryd.sizeOf4
  v4 := Tryd.zeroValue4
  t23 := Tryd.underlying54
  a23 := Tryd.isAgg54
  z23 := Tryd.sizeOf54
  v23 := Tryd.zeroValue54
  t26 := Tryd.underlying9
  a26 := Tryd.isAgg9
  z26 := Tryd.sizeOf9
  v26 := Tryd.zeroValue9
  t27 := Tryd.underlying61
  a27 := Tryd.isAgg61
  z27 := Tryd.sizeOf61
  v27 := Tryd.zeroValue61
  t28 := Tryd.underlying62
  a28 := Tryd.isAgg62
  z28 := Tryd.sizeOf62
  v28 := Tryd.zeroValue62
  t33 := Tryd.underlying71
  a33 := Tryd.isAgg71
  z33 := Tryd.sizeOf71
  v33 := Tryd.zeroValue71 }
def Tryd.sortedL_ren : Go.Shelf.Ren := ⟨fun | 6 => 32 | 8 => 46 | 9 => 47 | 11 => 59 | 13 => 61 | 12 => 60 | 23 => 78 | 24 => 79 | 14 => 69 | 15 => 70 | 16 => 71 | 17 => 72 | 18 => 73 | 19 => 74 | 20 => 75 | 21 => 76 | 22 => 77 | 25 => 88 | 26 => 89 | 27 => 90 | 28 => 91 | 29 => 92 | 30 => 93 | 31 => 96 | n => n, fun | 26 => 9 | 28 => 62 | 24 => 29 | 0 => 0 | 3 => 3 | 37 => 50 | 48 => 48 | 50 => 64 | 4 => 4 | 40 => 101 | 39 => 100 | 45 => 78 | 5 => 5 | 9 => 9 | 51 => 112 | 55 => 116 | 57 => 119 | 58 => 120 | 33 => 71 | n => n, fun | n => n⟩
theorem Tryd.sortedL : Go.Proofs.SlLaysZ.n6 Tryd.prog Tryd.sortedL_ren := {
  mixed := by kernel_rfl
  f6 := ⟨Tryd.f32.name, by decide, Tryd.func32.trans (congrArg some (by kernel_rfl))⟩
  f8 := ⟨Tryd.f46.name, by decide, Tryd.func46.trans (congrArg some (by kernel_rfl))⟩
  f11 := ⟨Tryd.f59.name, by decide, Tryd.func59.trans (congrArg some (by kernel_rfl))⟩
  t0 := Tryd.underlying0
  a0 := Tryd.isAgg0
  z0 := Tryd.sizeOf0
  v0 := Tryd.zeroValue0
  t24 := Tryd.underlying29
  a24 := Tryd.isAgg29
  z24 := Tryd.sizeOf29
  v24 := Tryd.zeroValue29
  t26 := Tryd.underlying9
  a26 := Tryd.isAgg9
  z26 := Tryd.sizeOf9
  v26 := Tryd.zeroValue9
  t28 := Tryd.underlying62
  a28 := Tryd.isAgg62
  z28 := Tryd.sizeOf62
  v28 := Tryd.zeroValue62
  i26 := by kernel_rfl }
def Tryd.sortL_ren : Go.Shelf.Ren := ⟨fun | 6 => 47 | 8 => 61 | 9 => 60 | 19 => 78 | 20 => 79 | 21 => 69 | 22 => 70 | 23 => 71 | 24 => 72 | 25 => 73 | 26 => 74 | 27 => 75 | 28 => 76 | 29 => 77 | 36 => 88 | 31 => 89 | 32 => 90 | 37 => 91 | 38 => 92 | 39 => 93 | 41 => 96 | n => n, fun | 27 => 29 | 29 => 9 | 3 => 3 | 32 => 50 | 26 => 29 | 0 => 0 | 44 => 48 | 46 => 64 | 4 => 4 | 36 => 101 | 35 => 100 | 41 => 78 | 5 => 5 | 9 => 9 | 53 => 112 | 57 => 116 | 63 => 119 | 64 => 120 | n => n, fun | n => n⟩
theorem Tryd.sortL : Go.Proofs.SlLaysM.n6 Tryd.prog Tryd.sortL_ren := {
  mixed := by kernel_rfl
  f6 := ⟨Tryd.f47.name, by decide, Tryd.func47.trans (congrArg some (by kernel_rfl))⟩
  f8 := Tryd.func61.trans (congrArg some (by kernel_rfl))
  f9 := ⟨Tryd.f60.name, by decide, Tryd.func60.trans (congrArg some (by kernel_rfl))⟩
  f19 := Tryd.func78.trans (congrArg some (by kernel_rfl))
  f20 := Tryd.func79.trans (congrArg some (by kernel_rfl))
  f21 := ⟨Tryd.f69.name, by decide, Tryd.func69.trans (congrArg some (by kernel_rfl))⟩
  f22 := ⟨Tryd.f70.name, by decide, Tryd.func70.trans (congrArg some (by kernel_rfl))⟩
  f23 := ⟨Tryd.f71.name, by decide, Tryd.func71.trans (congrArg some (by kernel_rfl))⟩
  f24 := ⟨Tryd.f72.name, by decide, Tryd.func72.trans (congrArg some (by kernel_rfl))⟩
  f25 := ⟨Tryd.f73.name, by decide, Tryd.func73.trans (congrArg some (by kernel_rfl))⟩
  f26 := ⟨Tryd.f74.name, by decide, Tryd.func74.trans (congrArg some (by kernel_rfl))⟩
  f27 := ⟨Tryd.f75.name, by decide, Tryd.func75.trans (congrArg some (by kernel_rfl))⟩
  f28 := ⟨Tryd.f76.name, by decide, Tryd.func76.trans (congrArg some (by kernel_rfl))⟩
  f29 := ⟨Tryd.f77.name, by decide, Tryd.func77.trans (congrArg some (by kernel_rfl))⟩
  f31 := Tryd.func89.trans (congrArg some (by kernel_rfl))
  f32 := Tryd.func90.trans (congrArg some (by kernel_rfl))
  f36 := ⟨Tryd.f88.name, by decide, Tryd.func88.trans (congrArg some (by kernel_rfl))⟩
  f37 := ⟨Tryd.f91.name, by decide, Tryd.func91.trans (congrArg some (by kernel_rfl))⟩
  f38 := ⟨Tryd.f92.name, by decide, Tryd.func92.trans (congrArg some (by kernel_rfl))⟩
  f39 := ⟨Tryd.f93.name, by decide, Tryd.func93.trans (congrArg some (by kernel_rfl))⟩
  f41 := ⟨Tryd.f96.name, by decide, Tryd.func96.trans (congrArg some (by kernel_rfl))⟩
  t0 := Tryd.underlying0
  a0 := Tryd.isAgg0
  z0 := Tryd.sizeOf0
  v0 := Tryd.zeroValue0
  t3 := Tryd.underlying3
  a3 := Tryd.isAgg3
  z3 := Tryd.sizeOf3
  v3 := Tryd.zeroValue3
  t4 := Tryd.underlying4
  a4 := Tryd.isAgg4
  z4 := Tryd.sizeOf4
  v4 := Tryd.zeroValue4
  t5 := Tryd.underlying5
  a5 := Tryd.isAgg5
  z5 := Tryd.sizeOf5
  v5 := Tryd.zeroValue5
  t9 := Tryd.underlying9
  a9 := Tryd.isAgg9
  z9 := Tryd.sizeOf9
  v9 := Tryd.zeroValue9
  t26 := Tryd.underlying29
  a26 := Tryd.isAgg29
  z26 := Tryd.sizeOf29
  v26 := Tryd.zeroValue29
  t27 := Tryd.underlying29
  a27 := Tryd.isAgg29
  z27 := Tryd.sizeOf29
  v27 := Tryd.zeroValue29
  t29 := Tryd.underlying9
  a29 := Tryd.isAgg9
  z29 := Tryd.sizeOf9
  v29 := Tryd.zeroValue9
  t32 := Tryd.underlying50
  a32 := Tryd.isAgg50
  z32 := Tryd.sizeOf50
  v32 := Tryd.zeroValue50
  t35 := Tryd.underlying100
  a35 := Tryd.isAgg100
  z35 := Tryd.sizeOf100
  v35 := Tryd.zeroValue100
  t36 := Tryd.underlying101
  a36 := Tryd.isAgg101
  z36 := Tryd.sizeOf101
  v36 := Tryd.zeroValue101
  t41 := Tryd.underlying78
  a41 := Tryd.isAgg78
  z41 := Tryd.sizeOf78
  v41 := Tryd.zeroValue78
  t44 := Tryd.underlying48
  a44 := Tryd.isAgg48
  z44 := Tryd.sizeOf48
  v44 := Tryd.zeroValue48
  t46 := Tryd.underlying64
  a46 := Tryd.isAgg64
  z46 := Tryd.sizeOf64
  v46 := Tryd.zeroValue64
  t53 := Tryd.underlying112
  a53 := Tryd.isAgg112
  z53 := Tryd.sizeOf112
  v53 := Tryd.zeroValue112
  t57 := Tryd.underlying116
  a57 := Tryd.isAgg116
  z57 := Tryd.sizeOf116
  v57 := Tryd.zeroValue116
  t63 := Tryd.underlying119
  a63 := Tryd.isAgg119
  z63 := Tryd.sizeOf119
  v63 := Tryd.zeroValue119
  t64 := Tryd.underlying120
  a64 := Tryd.isAgg120
  z64 := Tryd.sizeOf120
  v64 := Tryd.zeroValue120 }
end Go.Proofs

/- What is proved: 'slices.Sorted(maps.Keys(m))' gives the keys, rising. Conditions: the map is not nil, its keys and their number are bounded. -/
set_option linter.unusedSimpArgs false
set_option linter.unusedVariables false
namespace Go.Proofs.YtggalmiaofeikaaDoor
open Go Go.J Go.RowKit Go.Maps Go.Sort Go.Shelf

def anyR : Value → Option (DataW Unit × List MemPlace) := fun _ => some (.nil, [])
theorem own_of_map {P : Program} {k : TypeId} {b : Nat} {m : KV} {w : World} (hk : P.underlying k = some .string) (h : MapIs b m w) (hl : m.length ≤ maxLen) (hkl : ∀ p ∈ m, p.1.length ≤ maxLen) :
    ∃ D0 : DataW Unit, w.ownsMap P k anyR b m.length D0 ∧ (strKeys D0).Perm (m.map Prod.fst) ∧ Maps.size D0 = m.length := by
  obtain ⟨hnd, es, clock, hb, hkv, hbn, hbc⟩ := h
  have hlen : es.length = m.length := by have := congrArg List.length hkv; simpa [kvs, kvm] using this
  have hkeys : es.map (·.key) = m.map fun p => str p.1 := by
    have := congrArg (List.map Prod.fst) hkv
    simpa [kvs, kvm, List.map_map, Function.comp_def] using this
  have hrd : ∀ x ∈ es, ∃ s, x.key = str s ∧ WideElems.rd P k anyR x = some (.string s, .nil) := fun x hx => by
    have hm : x.key ∈ es.map (·.key) := List.mem_map_of_mem hx
    rw [hkeys] at hm
    obtain ⟨p, hp, he⟩ := List.mem_map.1 hm
    refine ⟨p.1, he.symm, ?_⟩
    unfold WideElems.rd
    rw [← he, WideMaps.keyOf_string_mk hk (show (⟨⟨p.1⟩⟩ : ByteArray).size ≤ maxLen from by rw [size_mk]; exact hkl p hp)]
    rfl
  refine ⟨.map ((es.map (WideElems.rg P k anyR)).foldr DataW.insert []), ⟨⟨es⟩, clock, hb, ⟨by simpa [hlen] using hl, ⟨by simpa using hbc, by simpa using hbn, ?_⟩, fun x hx => ?_⟩, by simp [hlen], rfl⟩, ?_, ?_⟩
  · simp only
    rw [hkeys]
    have : (m.map fun p => str p.1) = (m.map Prod.fst).map str := by simp [List.map_map, Function.comp_def]
    rw [this]
    refine List.Pairwise.map (S := fun a b => a ≠ b) str (fun a b h e => h ?_) hnd
    simpa [str] using e
  · obtain ⟨s, _, h2⟩ := hrd x (by simpa using hx)
    exact ⟨_, h2⟩
  · have hp : ((es.map (WideElems.rg P k anyR)).foldr DataW.insert []).Perm (es.map (WideElems.rg P k anyR)) := Go.WideShapes.sorted_perm _
    refine (hp.map fun p => strOf p.1).trans ?_
    rw [List.map_map]
    have e : es.map ((fun p => strOf p.1) ∘ WideElems.rg P k anyR) = m.map Prod.fst := by
      have h1 : (es.map fun x => x.key) = ((m.map Prod.fst).map str) := by rw [hkeys]; simp [List.map_map, Function.comp_def]
      have h2 : ∀ x ∈ es, str (((fun p => strOf p.1) ∘ WideElems.rg P k anyR) x) = x.key := fun x hx => by
        obtain ⟨s, h1, h2⟩ := hrd x hx
        simp only [Function.comp_def, WideElems.rg, h2, Option.getD_some, strOf, h1]
      have h3 : (es.map ((fun p => strOf p.1) ∘ WideElems.rg P k anyR)).map str = (m.map Prod.fst).map str := by
        rw [← h1, List.map_map]
        exact List.map_congr_left h2
      exact (List.map_inj_right (f := str) (fun a b h => by simpa [str] using h)).1 h3
    rw [e]
  · have hp : ((es.map (WideElems.rg P k anyR)).foldr DataW.insert []).Perm (es.map (WideElems.rg P k anyR)) := Go.WideShapes.sorted_perm _
    have := hp.length_eq
    rw [List.length_map] at this
    rw [← hlen, ← this]
    rfl

theorem sortsL (m : Nat) : AnyZ.SortsIn Tryd.prog Tryd.sortedL_ren Fence.wide m :=
  ⟨fun blk off cap ss W hH hblk hsz => callsIn_wide.2 (AnyM.slices_Sort_string Tryd.sortL blk off cap ss W hH hblk hsz),
   fun p cap W => callsIn_wide.2 (AnyM.slices_Sort_string_none Tryd.sortL p cap W)⟩
def keysT : TypeId := Tryd.keysL_ren.t 23
theorem mapsKeys_c (mb : Nat) (w : World) : Cal Tryd.prog 33 [.map (some mb)] w fun v w' => v = .func (.func 48) ⟨[]⟩ ⟨[.pointer (some ⟨w.heap.size, 0, none⟩)]⟩ ∧ w' = w.alloc (.cells ⟨[.map (some mb)]⟩ keysT) :=
  ⟨by kernel_rfl, (callsIn_wide.1 (AnyZ.keys_in Tryd.keysL Fence.wide 5 trivial rfl (some mb) w)).mono fun e w' ⟨h1, h2⟩ => ⟨_, h1, rfl, h2⟩⟩
theorem mapsKeys_n (mb : Nat) (w : World) : Cal Tryd.prog 33 [.map (some mb)] w fun v w' => ∃ x, v = .func (.func 48) ⟨[]⟩ ⟨[.pointer (some ⟨x, 0, none⟩)]⟩ ∧ Upd [] w w' ∧ New w w' (.box x keysT [.map (some mb)]) :=
  (mapsKeys_c mb w).mono fun v w' ⟨h1, h2⟩ => by
    subst h2
    have hh := heap_alloc_new w (.cells ⟨[.map (some mb)]⟩ keysT)
    exact ⟨_, h1, .alloc _ _ _, ⟨hh, fun b hb => by simp [Chunk.fp] at hb; subst hb; simp⟩⟩
theorem sorted_c {x mb : Nat} {m : KV} {w : World} (hx : w.heap[x]? = some (.cells ⟨[.map (some mb)]⟩ keysT (0, 0))) (hm : MapIs mb m w) (hl : m.length ≤ 1048576) (hkl : ∀ p ∈ m, p.1.length ≤ 1099511627776) :
    Cal Tryd.prog 32 [.func (.func 48) ⟨[]⟩ ⟨[.pointer (some ⟨x, 0, none⟩)]⟩] w fun v w' => Upd [] w w' ∧ ∃ A cap, v = .slice A m.length cap ∧
      New w w' (.own (.slice A m.length cap) 9 1 m.length (strs ((m.map Prod.fst).mergeSort (fun x y => decide (x ≤ y))))) := by
  have hmx : m.length ≤ maxLen := by unfold maxLen; omega
  obtain ⟨D0, hown, hperm, hsz⟩ := own_of_map Tryd.underlying9 hm hmx (fun p hp => by have := hkl p hp; unfold maxLen; omega)
  have hxl : x < w.heap.size := (Array.getElem?_eq_some_iff.1 hx).1
  have hseq : SeqGives Fence.wide 2 Tryd.prog 48 #[.pointer (some ⟨x, 0, none⟩)] encStr (fun ss => ss.Perm (strKeys D0)) (Maps.size D0) w :=
    AnyZ.keys_gives (ρ := Tryd.keysL_ren) { Tryd.keysL with } Fence.wide _ trivial rfl (by omega) x mb m.length D0 _ hxl (by rw [cell_of_row w x 0 _ _ _ hx]; rfl) hown
  have cS := AnyZ.sorted_in Tryd.sortedL Fence.wide 5 trivial trivial trivial trivial rfl (by omega) (sortsL _) (enters_of Tryd.func47 (by kernel_rfl) rfl) 48 #[.pointer (some ⟨x, 0, none⟩)] trivial (enters_of Tryd.func48 (by kernel_rfl) rfl) _ _ (by rw [hsz]; exact hmx) (by rw [hsz]; omega) _ hseq
  change CallsIn _ _ Tryd.prog 32 _ _ _ at cS
  refine ⟨by kernel_rfl, (callsIn_wide.1 cS).mono fun e w' ⟨v, ss, he, hS, hrow, hnil, hb⟩ => ⟨v, he, .of_below hb, ?_⟩⟩
  have hp : ss.Perm (m.map Prod.fst) := hS.trans hperm
  have hlen : ss.length = m.length := by rw [hp.length_eq, List.length_map]
  have hms : ss.mergeSort (fun x y => decide (x ≤ y)) = (m.map Prod.fst).mergeSort (fun x y => decide (x ≤ y)) := mergeSort_of_perm hp
  rw [hms, hlen] at hrow
  have hst : ((m.map Prod.fst).mergeSort (fun x y => decide (x ≤ y))).map encStr = strs ((m.map Prod.fst).mergeSort (fun x y => decide (x ≤ y))) := by
    generalize (m.map Prod.fst).mergeSort (fun x y => decide (x ≤ y)) = l
    induction l with
    | nil => rfl
    | cons a l ih => simp only [List.map_cons, ih]; rfl
  rw [hst] at hrow
  have hrow' := hrow
  rcases hrow.2 with ⟨rfl, hz⟩ | ⟨g, cap, cur, rfl, hg, hh, _⟩
  · refine ⟨none, 0, by rw [hz], ⟨?_, fun b hb => by simp [Chunk.fp, Value.ownBlock] at hb⟩⟩
    have := RowAt.of_owns hrow
    rwa [hz] at this ⊢
  · exact ⟨_, _, rfl, ⟨RowAt.of_owns hrow', fun b hb => by
      simp [Chunk.fp, Value.ownBlock] at hb
      subst hb
      exact ⟨hg, (Array.getElem?_eq_some_iff.1 hh).1⟩⟩⟩
end Go.Proofs.YtggalmiaofeikaaDoor

/- What is proved: what the disk's Arm and Restart do. Conditions: files of bounded length, of which what is kept is no longer than what is seen where it has only grown. -/
set_option linter.unusedSimpArgs false
set_option linter.unusedVariables false
namespace Go.J
open Go Go.RowKit
section
variable {P : Program} {N : Nat} {f : Fr} {w w0 : World} {Q : Post} {ops l : List Oper} {o : Oper} {M : List Nat} {H H' : List Chunk} {Z : List Snap} {ρ : Operand → Value}
theorem run_remU {ty ty' : TypeId} {x y : Operand} {a b : Int} (ho : o.op = .binOp .rem ty x y ty') (hx : ρ x = .int .u64 a) (hy : ρ y = .int .u64 b) (ha : 0 ≤ a) (hb : 0 < b ∧ b < 18446744073709551616) :
    (execOp ρ o).run P w = .ok (.value (.int .u64 (a % b))) w := by
  have h0 : ¬ b = 0 := by omega
  have h1 : (eqGuard .rem ty x y (.int .u64 a) (.int .u64 b)).run P w = .ok () w := by simp [eqGuard]
  have h2 : (binOp .rem ty (.int .u64 a) (.int .u64 b)).run P w = .ok (.int .u64 (a % b)) w := by
    have e1 := Int.emod_nonneg a h0
    have e2 := Int.emod_lt_of_pos a hb.1
    have e3 : IntKind.u64.wrap (a % b) = a % b := by rw [IntKind.wrap_u64]; omega
    simp [binOp, Op.intDiv, h0, Int.tmod_eq_emod_of_nonneg ha, e3]
  simp only [execOp, ho, hx, hy, Sem.run_bind, h1, h2, Result.andThen_ok]
  rfl
theorem WL.remU {ty ty' : TypeId} {x y : Operand} {a b : Int} (ho : o.op = .binOp .rem ty x y ty') (hx : ev f x = .int .u64 a) (hy : ev f y = .int .u64 b) (ha : 0 ≤ a) (hb : 0 < b ∧ b < 18446744073709551616)
    (hg : wants ops f o = true) {d : Nat} (hd : o.dst = some d) (hn : Nat.blt d N = true) (h : WL P N ops l (up f d (.int .u64 (a % b))) w Q) : WL P N ops (o :: l) f w Q := .val hg hd hn (run_remU ho hx hy ha hb) h
theorem wrapU {a : Int} (h : 0 ≤ a ∧ a < 18446744073709551616) : IntKind.u64.wrap a = a := by rw [IntKind.wrap_u64]; omega
theorem WL.subU {ty ty' : TypeId} {x y : Operand} {a b : Int} (ho : o.op = .binOp .sub ty x y ty') (hx : ev f x = .int .u64 a) (hy : ev f y = .int .u64 b) (hr : 0 ≤ a - b ∧ a - b < 18446744073709551616)
    (hg : wants ops f o = true) {d : Nat} (hd : o.dst = some d) (hn : Nat.blt d N = true) (h : WL P N ops l (up f d (.int .u64 (a - b))) w Q) : WL P N ops (o :: l) f w Q := by
  refine WL.subW ho hx hy hg hd hn ?_
  rw [wrapU hr]; exact h
def toU64 (P : Program) (s d : TypeId) : Bool := match P.underlying s, P.underlying d with
  | some (.int _), some (.int .u64) => true
  | _, _ => false
theorem WL.convU {s d' : TypeId} {x : Operand} {k : IntKind} {a : Int} (ho : o.op = .convert s d' x) (ht : toU64 P s d' = true) (hx : ev f x = .int k a) (hr : 0 ≤ a ∧ a < 18446744073709551616)
    (hg : wants ops f o = true) {d : Nat} (hd : o.dst = some d) (hn : Nat.blt d N = true) (h : WL P N ops l (up f d (.int .u64 a)) w Q) : WL P N ops (o :: l) f w Q := by
  refine .pure (v := .int .u64 a) ?_ hg hd hn h
  unfold toU64 at ht
  split at ht
  · rename_i k1 h1 h2
    unfold pureV
    rw [ho]
    simp only [pureOp, h1, h2, hx, wrapU hr]
    rfl
  · cases ht
end
section
variable {P : Program} {N : Nat} {f : Fr} {w w0 : World} {Q : Post} {ops : List Oper} {M : List Nat} {H0 H H' : List Chunk} {Z0 Z : List Snap} {q : Qs} {l : List Nat} {i : Nat} {S : World → Prop}
theorem WD.remU {ty ty' : TypeId} {x y : Operand} {a b : Int} (ho : (ix ops i).op = .binOp .rem ty x y ty') (hx : ev f x = .int .u64 a) (hy : ev f y = .int .u64 b) (ha : 0 ≤ a) (hb : 0 < b ∧ b < 18446744073709551616)
    (hq : q.contains i = true) (hg : wants ops f (ix ops i) = true) {d : Nat} (hd : (ix ops i).dst = some d) (hn : Nat.blt d N = true) (h : WD P N S ops q l (up f d (.int .u64 (a % b))) w Q) : WD P N S ops q (i :: l) f w Q :=
  .take hq hd hn (.inl ⟨hg, fun _ _ => run_remU ho hx hy ha hb⟩) h
theorem WD.convU {s d' : TypeId} {x : Operand} {k : IntKind} {a : Int} (ho : (ix ops i).op = .convert s d' x) (ht : toU64 P s d' = true) (hx : ev f x = .int k a) (hr : 0 ≤ a ∧ a < 18446744073709551616)
    (hq : q.contains i = true) (hg : wants ops f (ix ops i) = true) {d : Nat} (hd : (ix ops i).dst = some d) (hn : Nat.blt d N = true) (h : WD P N S ops q l (up f d (.int .u64 a)) w Q) : WD P N S ops q (i :: l) f w Q := by
  refine .pure (v := .int .u64 a) ?_ hq hg hd hn h
  unfold toU64 at ht
  split at ht
  · rename_i k1 h1 h2
    unfold pureV
    rw [ho]
    simp only [pureOp, h1, h2, hx, wrapU hr]
    rfl
  · cases ht
end
end Go.J
namespace Go.Proofs.YtggalmiaofeikaaDoor
open Go Go.J Go.RowKit

def Dk.arm (D : Dk) (n : Int) : Dk := { D with armed := max (-1) n }
set_option maxHeartbeats 4000000 in
set_option maxRecDepth 100000 in
theorem arm_c {q mb lb : Nat} {D : Dk} (n : Int) {w0 : World} (hc : (dkC q mb lb D).holds w0) (hi : inB (dkC q mb lb D) w0) :
    Cal Tryd.prog 17 [.pointer (some ⟨q, 0, none⟩), .int .i64 n] w0 (fun v w' => v = .tuple #[] ∧ Mut w0 w' (dkC q mb lb D) (dkC q mb lb (D.arm n))) := by
  refine Cal.mkM hc hi (by kernel_rfl) Tryd.func17 rfl rfl fun hS => ?_
  obtain ⟨h1, h2, h3, hS⟩ := St.dkOpen hS
  replace hS : St w0 (dkC q mb lb D).fp w0 [.box q 57 [.map (some mb), .map (some lb), .int .i64 D.steps, .int .i64 D.stamps, .int .i64 D.armed, .bool D.down], mapC mb (mmap encIt D.items), mapC lb (mmap encI D.limits)] _ := hS
  repeat' (first
    | (show WL _ _ _ _ _ _ _; first
      | refine WL.pure rfl rfl rfl rfl ?_
      | refine WL.nil ?_
      | refine WL.maxI rfl rfl rfl rfl rfl rfl ?_
      | (refine WL.store hS rfl rfl rfl (by repeat (first | exact StB.here rfl | apply StB.there)) rfl rfl rfl ?_; intro w hS))
    | (show WC _ _ _ _ _ _; first
      | refine WC.seq ?_
      | refine WC.region ?_
      | refine WC.condT rfl (by decide) ?_)
    | refine seqQ_n ?_)
  exact fin0n rfl ⟨rfl, (St.dkClose (D.arm n) h1 h2 h3 hS).mutOf (List.Mem.head _)⟩
def mixS (x s : Int) : Int := bits .xor .u64 x (shrI .u64 x s)
/-- a number that looks like chance -/
def mixE (loss n : Int) : Int := mixS (IntKind.u64.wrap (mixS (IntKind.u64.wrap (mixS (IntKind.u64.wrap (loss + IntKind.u64.wrap (n * 11400714819323198485))) 30 * 13787848793156543929)) 27 * 10723151780598845931)) 31
theorem mixE_in (loss n : Int) : 0 ≤ mixE loss n ∧ mixE loss n < 18446744073709551616 := by
  have h : ∀ y, 0 ≤ IntKind.u64.wrap y ∧ IntKind.u64.wrap y < 18446744073709551616 := fun y => by rw [IntKind.wrap_u64]; omega
  exact h _
set_option maxHeartbeats 4000000 in
set_option maxRecDepth 100000 in
theorem mix_c (loss n : Int) (w0 : World) : Cal Tryd.prog 34 [.int .u64 loss, .int .u64 n] w0 (fun v w' => Upd [] w0 w' ∧ v = .int .u64 (mixE loss n)) := by
  refine Cal.mk' (by kernel_rfl) Tryd.func34 rfl rfl fun hS => ?_
  repeat' (first
    | (show WL _ _ _ _ _ _ _; first
      | refine WL.pure rfl rfl rfl rfl ?_
      | refine WL.nil ?_
      | (refine WL.shr rfl rfl rfl (by decide) rfl rfl rfl ?_))
    | (show WC _ _ _ _ _ _; first
      | refine WC.seq ?_
      | refine WC.region ?_
      | refine WC.ret ?_)
    | refine seqQ_n ?_)
  exact fin1r rfl rfl ⟨hS.upd, rfl⟩
/-- what is kept of a file that wasn't synced -/
def loseK (loss n : Int) (x : It) : List UInt8 :=
  if x.anew then (if 0 < mixE (IntKind.u64.wrap loss) n % ((x.data.length : Int) + 2) then x.data.take (mixE (IntKind.u64.wrap loss) n % ((x.data.length : Int) + 2) - 1).toNat else x.kept)
  else x.data.take ((x.kept.length : Int) + mixE (IntKind.u64.wrap loss) n % ((x.data.length : Int) - x.kept.length + 1)).toNat
def lose1 (loss : Int) (s : Int × Dk) (p : List UInt8) : Int × Dk :=
  if (s.2.at p).loose then (s.1 + 1, s.2.set p { s.2.at p with data := loseK loss (s.1 + 1) (s.2.at p), kept := loseK loss (s.1 + 1) (s.2.at p), loose := false, anew := false }) else s
def Dk.keys (D : Dk) : List (List UInt8) := (D.items.map Prod.fst).mergeSort (fun x y => decide (x ≤ y))
def Dk.lose (D : Dk) (loss : Int) : Int × Dk := D.keys.foldl (lose1 loss) (0, D)
def Dk.restart (D : Dk) (loss : Int) : Dk := { (D.lose loss).2 with down := false, armed := -1 }
/-- no file is great, and where one has only grown, what is kept is no more than what is seen -/
def Dk.Kp (D : Dk) (B : Nat) : Prop := ∀ x ∈ D.items, x.2.data.length ≤ B ∧ x.2.kept.length ≤ B ∧ (x.2.loose = true → x.2.anew = false → x.2.kept.length ≤ x.2.data.length)
theorem Dk.Kp.at_ {D : Dk} {B : Nat} (h : D.Kp B) (p : List UInt8) : (D.at p).data.length ≤ B ∧ (D.at p).kept.length ≤ B ∧ ((D.at p).loose = true → (D.at p).anew = false → (D.at p).kept.length ≤ (D.at p).data.length) := by
  unfold Dk.at
  cases e : mget D.items p with
  | none => exact ⟨Nat.zero_le _, Nat.zero_le _, fun h => by cases h⟩
  | some x => exact h _ (mget_mem e)
theorem loseK_len (loss n : Int) (x : It) {B : Nat} (h1 : x.data.length ≤ B) (h2 : x.kept.length ≤ B) : (loseK loss n x).length ≤ B := by
  unfold loseK
  repeat' split
  all_goals first | exact h2 | (rw [List.length_take]; omega)
theorem lose1_Kp {loss : Int} {s : Int × Dk} {p : List UInt8} {B : Nat} (h : s.2.Kp B) : (lose1 loss s p).2.Kp B := by
  unfold lose1
  split
  · intro y hy
    rcases mem_mset hy with h1 | h1
    · exact h y h1
    · rw [h1]
      have := loseK_len loss (s.1 + 1) (s.2.at p) (h.at_ p).1 (h.at_ p).2.1
      exact ⟨this, this, fun hh => by cases hh⟩
  · exact h
theorem u64_nat {a : Int} {n : Nat} (h : a = (n : Int)) : Value.int .u64 a = .int .u64 (Int.ofNat n) := by rw [h]; rfl
set_option maxHeartbeats 16000000 in
set_option maxRecDepth 100000 in
theorem restart_c {q mb lb : Nat} {D : Dk} (loss : Int) {w0 : World} (hc : (dkC q mb lb D).holds w0) (hi : inB (dkC q mb lb D) w0) (hk : D.Kp 1099511627776) (hn : D.items.length ≤ 1048576) (hkk : ∀ x ∈ D.items, x.1.length ≤ 1099511627) :
    Cal Tryd.prog 18 [.pointer (some ⟨q, 0, none⟩), .int .i64 loss] w0 (fun v w' => v = .int .i64 0 ∧ Mut w0 w' (dkC q mb lb D) (dkC q mb lb (D.restart loss))) := by
  refine Cal.mkM hc hi (by kernel_rfl) Tryd.func18 rfl rfl fun hS => ?_
  have hkl : D.keys.length = D.items.length := by unfold Dk.keys; rw [(List.mergeSort_perm _ _).length_eq, List.length_map]
  have hml : (mmap encIt D.items).length = D.items.length := by unfold mmap; rw [List.length_map]
  have hmk : (mmap encIt D.items).map Prod.fst = D.items.map Prod.fst := by unfold mmap; rw [List.map_map]; rfl
  have hks : ((mmap encIt D.items).map Prod.fst).mergeSort (fun x y => decide (x ≤ y)) = D.keys := by rw [hmk]; rfl
  have hmkk : ∀ p ∈ mmap encIt D.items, p.1.length ≤ 1099511627776 := fun p hp => by
    obtain ⟨x, hx, rfl⟩ := List.mem_map.1 hp
    have := hkk x hx
    show x.1.length ≤ _
    omega
  repeat' (first
    | (show WL _ _ _ _ _ _ _; first
      | refine WL.pure rfl rfl rfl rfl ?_
      | refine WL.nil ?_
      | (refine WL.load hS rfl rfl (LdOk.dk (D := D) (by repeat (first | exact List.Mem.head _ | apply List.Mem.tail)) rfl) rfl rfl rfl ?_)
      | (refine WL.callG rfl rfl (mapsKeys_n mb _) rfl rfl rfl ?_; rintro v w ⟨x, rfl, hu, hnw⟩; replace hS := hS.new hu hnw; clear hu hnw)
      | (refine WL.callG rfl rfl (sorted_c (m := mmap encIt D.items) (hS.holds (.box x keysT [.map (some mb)]) (by repeat (first | exact List.Mem.head _ | apply List.Mem.tail))) (hS.holds (dkC q mb lb D) (by repeat (first | exact List.Mem.head _ | apply List.Mem.tail))).1.2.2.2.2.1 (by rw [hml]; exact hn) hmkk) rfl rfl rfl ?_; rintro v w ⟨hu, A, cap, rfl, hnw⟩; rw [hks, hml] at hnw; rw [hml]; replace hS := hS.new hu hnw; clear hu hnw))
    | (show WC _ _ _ _ _ _; first
      | refine WC.seq ?_
      | refine WC.region ?_
      | refine WC.block ?_
      | refine WC.skip ?_
      | refine WC.condF rfl (by with_reducible rfl) ?_)
    | refine seqQ_n ?_)
  refine WC.loop (σ := Nat × Int × Dk) [0, 1, 18, 19] (fun (k, n, E) => [(5, .int .i64 n), (20, .int .i64 (k : Int))])
    (fun (k, n, E) w => k ≤ D.items.length ∧ 0 ≤ n ∧ n ≤ k ∧ E.Kp 1099511627776 ∧ (D.keys.drop k).foldl (lose1 loss) (n, E) = D.lose loss ∧ St w0 _ w [.own (.slice A D.items.length cap) 9 1 D.items.length (strs D.keys), .box x keysT [.map (some mb)], dkC q mb lb E] _)
    (fun (k, _) => D.items.length - k) (0, 0, D) ⟨Nat.zero_le _, Int.le_refl _, Int.le_refl _, hk, rfl, hS⟩ ⟨rfl, rfl, trivial⟩ ?_
  clear hS
  rintro ⟨k, n, E⟩ g w ⟨hk', h0, hnk, hKp, hfold, hS⟩
  show WC _ _ _ (lf _ [(5, .int .i64 n), (20, .int .i64 (k : Int))] _ _) _ _
  by_cases hlt : k < D.items.length
  · have hlt2 : k < D.keys.length := by omega
    obtain ⟨ga, oa, rfl⟩ := hS.own_addr (List.Mem.head _) (by omega)
    have hx : (strs D.keys)[k * 1]? = some (str D.keys[k]) := by rw [Nat.mul_one]; exact strs_at hlt2
    have hstep : D.keys.drop k = D.keys[k] :: D.keys.drop (k + 1) := List.drop_eq_getElem_cons hlt2
    rw [hstep, List.foldl_cons] at hfold
    clear hstep
    generalize D.keys[k] = p at *
    have hat := hKp.at_ p
    have hKp' := lose1_Kp (loss := loss) (s := (n, E)) (p := p) hKp
    have hlk := look_it E.items p
    have hE : E.at p = (mget E.items p).getD It0 := rfl
    rw [← hE] at hlk
    clear hE
    have hl1 : lose1 loss (n, E) p = if (E.at p).loose then (n + 1, E.set p { E.at p with data := loseK loss (n + 1) (E.at p), kept := loseK loss (n + 1) (E.at p), loose := false, anew := false }) else (n, E) := rfl
    rw [hl1] at hfold hKp'
    clear hl1
    generalize E.at p = it at *
    obtain ⟨dir, dat, kept, loose, anew, stamp⟩ := it
    dsimp only at *
    have hlk : lookV (encIt It0) (mmap encIt E.items) p false = .agg ⟨[.bool dir, str dat, str kept, .bool loose, .bool anew, .int .i64 stamp]⟩ := hlk
    have hpk := mixE_in (IntKind.u64.wrap loss) (n + 1)
    cases loose with
    | false =>
      rw [if_neg (by decide)] at hfold hKp'
      repeat' (first
        | (show WL _ _ _ _ _ _ _; first
          | refine WL.pure rfl rfl rfl rfl ?_
          | refine WL.nil ?_
          | refine WL.load hS rfl rfl (LdOk.box (by repeat (first | exact List.Mem.head _ | apply List.Mem.tail)) rfl) rfl rfl rfl ?_
          | refine WL.add rfl rfl rfl (by omega) rfl rfl rfl ?_
          | (refine WL.load hS rfl rfl (LdOk.ownAt (by repeat (first | exact List.Mem.head _ | apply List.Mem.tail)) rfl ⟨_, rfl⟩ hx rfl) rfl rfl rfl ?_)
          | (refine WL.load hS rfl rfl (LdOk.dk (D := E) (by repeat (first | exact List.Mem.head _ | apply List.Mem.tail)) rfl) rfl rfl rfl ?_)
          | (refine WL.mget hS rfl rfl rfl rfl (MapOk.dk (D := E) (by repeat (first | exact List.Mem.head _ | apply List.Mem.tail))) hlk rfl rfl rfl ?_)
          | (refine WL.store hS rfl rfl rfl (by repeat (first | exact StB.here rfl | apply StB.there)) rfl rfl rfl ?_; intro w hS)
          | (refine WL.alloc hS rfl rfl rfl rfl rfl rfl ?_; intro w b hS)
          | refine WL.index rfl rfl rfl rfl (by first | with_reducible assumption | omega) rfl rfl rfl rfl ?_)
        | (show WC _ _ _ _ _ _; first
          | refine WC.seq ?_
          | refine WC.region ?_
          | refine WC.block ?_
          | refine WC.skip ?_
          | refine WC.exit ?_
          | refine WC.condT rfl (by decide) ?_
          | refine WC.condT rfl (decide_eq_true (by first | with_reducible assumption | omega)) ?_)
        | refine seqQ_n ?_
        | refine seqQ_x ?_
        | refine blkQ_hit rfl ?_)
      exact rndQ_n (k + 1, n, E) ⟨by omega, h0, by show n ≤ ((k + 1 : Nat) : Int); omega, hKp, hfold, hS.drop⟩ (by show D.items.length - (k + 1) < D.items.length - k; omega) ⟨rfl, vint (by omega), trivial⟩ ⟨rfl, rfl, rfl, rfl, trivial⟩
    | true =>
      rw [if_pos rfl] at hfold hKp'
      cases anew with
      | true =>
        have he0 := Int.emod_nonneg (mixE (IntKind.u64.wrap loss) (n + 1)) (show ((dat.length : Int) + 2) ≠ 0 by omega)
        have he1 := Int.emod_lt_of_pos (mixE (IntKind.u64.wrap loss) (n + 1)) (show (0 : Int) < (dat.length : Int) + 2 by omega)
        obtain ⟨mm, hmm⟩ : ∃ mm : Nat, mixE (IntKind.u64.wrap loss) (n + 1) % ((dat.length : Int) + 2) = (mm : Int) := ⟨_, (Int.toNat_of_nonneg he0).symm⟩
        rw [hmm] at he0 he1
        have hK : loseK loss (n + 1) ⟨dir, dat, kept, true, true, stamp⟩ = if 0 < mm then dat.take (mm - 1) else kept := by
          unfold loseK
          rw [if_pos rfl]
          dsimp only
          rw [hmm]
          by_cases hz : 0 < mm
          · rw [if_pos (by omega), if_pos hz]; congr 1; omega
          · rw [if_neg (by omega), if_neg hz]
        rw [hK] at hfold hKp'
        clear hK
        by_cases hz : 0 < mm
        · have hm1 : (mm : Int) - 1 = ((mm - 1 : Nat) : Int) := by omega
          rw [if_pos hz] at hfold hKp'
          repeat' (first
            | (show WL _ _ _ _ _ _ _; first
              | (refine WL.convU rfl rfl rfl (by omega) rfl rfl rfl ?_)
              | (refine WL.subU rfl rfl rfl (by omega) rfl rfl rfl ?_; rw [hm1])
              | refine WL.pure rfl rfl rfl rfl ?_
              | refine WL.nil ?_
              | refine WL.load hS rfl rfl (LdOk.box (by repeat (first | exact List.Mem.head _ | apply List.Mem.tail)) rfl) rfl rfl rfl ?_
              | refine WL.add rfl rfl rfl (by omega) rfl rfl rfl ?_
              | (refine WL.load hS rfl rfl (LdOk.ownAt (by repeat (first | exact List.Mem.head _ | apply List.Mem.tail)) rfl ⟨_, rfl⟩ hx rfl) rfl rfl rfl ?_)
              | (refine WL.load hS rfl rfl (LdOk.dk (D := E) (by repeat (first | exact List.Mem.head _ | apply List.Mem.tail)) rfl) rfl rfl rfl ?_)
              | (refine WL.mget hS rfl rfl rfl rfl (MapOk.dk (D := E) (by repeat (first | exact List.Mem.head _ | apply List.Mem.tail))) hlk rfl rfl rfl ?_)
              | (refine WL.calls hS rfl rfl (mix_c (IntKind.u64.wrap loss) (n + 1) _) rfl rfl rfl ?_; rintro v w rfl hS)
              | (refine WL.remU rfl rfl rfl (by omega) (by omega) rfl rfl rfl ?_; rw [hmm])
              | (refine WL.callL (D := [dkC q mb lb E]) hS (by repeat (first | exact Pulls.nil | (apply Pulls.cons; focus (repeat (first | exact Pull.here | apply Pull.there))))) rfl rfl (fun hI => dset_c p ⟨dir, dat.take (mm - 1), dat.take (mm - 1), false, false, stamp⟩ hI.head hI.headB) rfl rfl rfl ?_; rintro v w ⟨rfl, hm⟩ hS; replace hS := hS _ (.of1 hm); clear hm)
              | refine WL.highS rfl rfl rfl rfl (by omega) rfl rfl rfl ?_
              | (refine WL.store hS rfl rfl rfl (by repeat (first | exact StB.here rfl | apply StB.there)) rfl rfl rfl ?_; intro w hS)
              | (refine WL.alloc hS rfl rfl rfl rfl rfl rfl ?_; intro w b hS)
              | refine WL.index rfl rfl rfl rfl (by first | with_reducible assumption | omega) rfl rfl rfl rfl ?_)
            | (show WC _ _ _ _ _ _; first
              | refine WC.seq ?_
              | refine WC.region ?_
              | refine WC.block ?_
              | refine WC.skip ?_
              | refine WC.condT rfl (by with_reducible rfl) ?_
              | refine WC.condF rfl (by decide) ?_
              | refine WC.condT rfl (decide_eq_true (by first | with_reducible assumption | omega)) ?_)
            | refine seqQ_n ?_
            | refine blkQ_n ?_)
          exact rndQ_n (k + 1, n + 1, E.set p ⟨dir, dat.take (mm - 1), dat.take (mm - 1), false, false, stamp⟩) ⟨by omega, by show 0 ≤ n + 1; omega, by show n + 1 ≤ ((k + 1 : Nat) : Int); omega, hKp', hfold, hS.droplast2 (by repeat (first | exact Pulls.nil | (apply Pulls.cons; focus (repeat (first | exact Pull.here | apply Pull.there)))))⟩ (by show D.items.length - (k + 1) < D.items.length - k; omega) ⟨rfl, vint (by omega), trivial⟩ ⟨rfl, rfl, rfl, rfl, trivial⟩
        · rw [if_neg hz] at hfold hKp'
          repeat' (first
            | (show WL _ _ _ _ _ _ _; first
              | (refine WL.convU rfl rfl rfl (by omega) rfl rfl rfl ?_)
              | refine WL.pure rfl rfl rfl rfl ?_
              | refine WL.nil ?_
              | refine WL.load hS rfl rfl (LdOk.box (by repeat (first | exact List.Mem.head _ | apply List.Mem.tail)) rfl) rfl rfl rfl ?_
              | refine WL.add rfl rfl rfl (by omega) rfl rfl rfl ?_
              | (refine WL.load hS rfl rfl (LdOk.ownAt (by repeat (first | exact List.Mem.head _ | apply List.Mem.tail)) rfl ⟨_, rfl⟩ hx rfl) rfl rfl rfl ?_)
              | (refine WL.load hS rfl rfl (LdOk.dk (D := E) (by repeat (first | exact List.Mem.head _ | apply List.Mem.tail)) rfl) rfl rfl rfl ?_)
              | (refine WL.mget hS rfl rfl rfl rfl (MapOk.dk (D := E) (by repeat (first | exact List.Mem.head _ | apply List.Mem.tail))) hlk rfl rfl rfl ?_)
              | (refine WL.calls hS rfl rfl (mix_c (IntKind.u64.wrap loss) (n + 1) _) rfl rfl rfl ?_; rintro v w rfl hS)
              | (refine WL.remU rfl rfl rfl (by omega) (by omega) rfl rfl rfl ?_; rw [hmm])
              | (refine WL.callL (D := [dkC q mb lb E]) hS (by repeat (first | exact Pulls.nil | (apply Pulls.cons; focus (repeat (first | exact Pull.here | apply Pull.there))))) rfl rfl (fun hI => dset_c p ⟨dir, kept, kept, false, false, stamp⟩ hI.head hI.headB) rfl rfl rfl ?_; rintro v w ⟨rfl, hm⟩ hS; replace hS := hS _ (.of1 hm); clear hm)
              | (refine WL.store hS rfl rfl rfl (by repeat (first | exact StB.here rfl | apply StB.there)) rfl rfl rfl ?_; intro w hS)
              | (refine WL.alloc hS rfl rfl rfl rfl rfl rfl ?_; intro w b hS)
              | refine WL.index rfl rfl rfl rfl (by first | with_reducible assumption | omega) rfl rfl rfl rfl ?_)
            | (show WC _ _ _ _ _ _; first
              | refine WC.seq ?_
              | refine WC.region ?_
              | refine WC.block ?_
              | refine WC.skip ?_
              | refine WC.condT rfl (by with_reducible rfl) ?_
              | refine WC.condF rfl (by decide) ?_
              | refine WC.condT rfl (decide_eq_true (by first | with_reducible assumption | omega)) ?_
              | refine WC.condF rfl (decide_eq_false (by first | with_reducible assumption | omega)) ?_)
            | refine seqQ_n ?_
            | refine blkQ_n ?_)
          exact rndQ_n (k + 1, n + 1, E.set p ⟨dir, kept, kept, false, false, stamp⟩) ⟨by omega, by show 0 ≤ n + 1; omega, by show n + 1 ≤ ((k + 1 : Nat) : Int); omega, hKp', hfold, hS.droplast2 (by repeat (first | exact Pulls.nil | (apply Pulls.cons; focus (repeat (first | exact Pull.here | apply Pull.there)))))⟩ (by show D.items.length - (k + 1) < D.items.length - k; omega) ⟨rfl, vint (by omega), trivial⟩ ⟨rfl, rfl, rfl, rfl, trivial⟩
      | false =>
        have hkd := hat.2.2 rfl rfl
        have he0 := Int.emod_nonneg (mixE (IntKind.u64.wrap loss) (n + 1)) (show ((dat.length : Int) - kept.length + 1) ≠ 0 by omega)
        have he1 := Int.emod_lt_of_pos (mixE (IntKind.u64.wrap loss) (n + 1)) (show (0 : Int) < (dat.length : Int) - kept.length + 1 by omega)
        obtain ⟨mm, hmm⟩ : ∃ mm : Nat, mixE (IntKind.u64.wrap loss) (n + 1) % ((dat.length : Int) - kept.length + 1) = (mm : Int) := ⟨_, (Int.toNat_of_nonneg he0).symm⟩
        rw [hmm] at he0 he1
        have hK : loseK loss (n + 1) ⟨dir, dat, kept, true, false, stamp⟩ = dat.take (kept.length + mm) := by
          unfold loseK
          rw [if_neg (show ¬ false = true by decide)]
          dsimp only
          rw [hmm]
          congr 1
        rw [hK] at hfold hKp'
        clear hK
        repeat' (first
          | (show WL _ _ _ _ _ _ _; first
            | (refine WL.convU rfl rfl rfl (by omega) rfl rfl rfl ?_)
            | refine WL.pure rfl rfl rfl rfl ?_
            | refine WL.nil ?_
            | refine WL.load hS rfl rfl (LdOk.box (by repeat (first | exact List.Mem.head _ | apply List.Mem.tail)) rfl) rfl rfl rfl ?_
            | refine WL.add rfl rfl rfl (by omega) rfl rfl rfl ?_
            | (refine WL.load hS rfl rfl (LdOk.ownAt (by repeat (first | exact List.Mem.head _ | apply List.Mem.tail)) rfl ⟨_, rfl⟩ hx rfl) rfl rfl rfl ?_)
            | (refine WL.load hS rfl rfl (LdOk.dk (D := E) (by repeat (first | exact List.Mem.head _ | apply List.Mem.tail)) rfl) rfl rfl rfl ?_)
            | (refine WL.mget hS rfl rfl rfl rfl (MapOk.dk (D := E) (by repeat (first | exact List.Mem.head _ | apply List.Mem.tail))) hlk rfl rfl rfl ?_)
            | (refine WL.calls hS rfl rfl (mix_c (IntKind.u64.wrap loss) (n + 1) _) rfl rfl rfl ?_; rintro v w rfl hS)
            | (refine WL.callL (D := [dkC q mb lb E]) hS (by repeat (first | exact Pulls.nil | (apply Pulls.cons; focus (repeat (first | exact Pull.here | apply Pull.there))))) rfl rfl (fun hI => dset_c p ⟨dir, dat.take (kept.length + mm), dat.take (kept.length + mm), false, false, stamp⟩ hI.head hI.headB) rfl rfl rfl ?_; rintro v w ⟨rfl, hm⟩ hS; replace hS := hS _ (.of1 hm); clear hm)
            | (refine WL.store hS rfl rfl rfl (by repeat (first | exact StB.here rfl | apply StB.there)) rfl rfl rfl ?_; intro w hS)
            | (refine WL.alloc hS rfl rfl rfl rfl rfl rfl ?_; intro w b hS)
            | refine WL.index rfl rfl rfl rfl (by first | with_reducible assumption | omega) rfl rfl rfl rfl ?_)
          | (show WC _ _ _ _ _ _; first
            | refine WC.seq ?_
            | refine WC.region ?_
            | refine WC.block ?_
            | refine WC.skip ?_
            | (show WC _ _ (Code.region _ (List.toArray [_, _, _, _, _, _, _, _, _, _, _, _, _, _, _, _, _, _, _, _, _]) true) _ _ _; refine WC.drawV hS [0,1,2,3,4,5,6,7,8,9,10,11,12,13,14,15,16,17,18,19] [0,1,2,3,4,5,6,7,8,9,10,11,12,13,14,15,16,17,18,19] 20 [] (by kernel_rfl) (by kernel_rfl) ?_; clear hS; intro w hS hM)
            | refine WC.condF rfl (by with_reducible rfl) ?_
            | refine WC.condF rfl (by decide) ?_
            | refine WC.condT rfl (decide_eq_true (by first | with_reducible assumption | omega)) ?_)
          | (show WD _ _ _ _ _ _ _ _ _; first
            | (refine WD.convU rfl rfl rfl (by omega) rfl rfl rfl rfl ?_)
            | refine WD.pure rfl rfl rfl rfl rfl ?_
            | refine WD.nil ?_
            | refine WD.load rfl rfl (LdOk.box (by repeat (first | exact List.Mem.head _ | apply List.Mem.tail)) rfl) rfl rfl rfl rfl ?_
            | refine WD.add rfl rfl rfl (by omega) rfl rfl rfl rfl ?_
            | refine WD.sub rfl rfl rfl (by omega) rfl rfl rfl rfl ?_
            | (refine WD.remU rfl rfl rfl (by omega) (by omega) rfl rfl rfl rfl ?_; rw [hmm])
            | (refine WD.highS rfl rfl rfl rfl (by omega) rfl rfl rfl rfl ?_)
            | (refine WD.pivStore hS rfl rfl rfl (by repeat (first | exact StB.here rfl | apply StB.there)) rfl rfl rfl rfl ?_; clear hS; intro w hS hM)
            | refine WD.conv64 rfl rfl rfl (by omega) rfl rfl rfl rfl ?_)
          | refine seqQ_n ?_
          | refine blkQ_n ?_)
        exact rndQ_n (k + 1, n + 1, E.set p ⟨dir, dat.take (kept.length + mm), dat.take (kept.length + mm), false, false, stamp⟩) ⟨by omega, by show 0 ≤ n + 1; omega, by show n + 1 ≤ ((k + 1 : Nat) : Int); omega, hKp', hfold, hS.droplast2 (by repeat (first | exact Pulls.nil | (apply Pulls.cons; focus (repeat (first | exact Pull.here | apply Pull.there)))))⟩ (by show D.items.length - (k + 1) < D.items.length - k; omega) ⟨rfl, vint (by omega), trivial⟩ ⟨rfl, rfl, rfl, rfl, trivial⟩
  · have hke : k = D.items.length := by omega
    subst hke
    rw [← hkl, List.drop_length, List.foldl_nil] at hfold
    have hS := hS.droplast2 (D := [dkC q mb lb E]) (by repeat (first | exact Pulls.nil | (apply Pulls.cons; focus (repeat (first | exact Pull.here | apply Pull.there)))))
    have hR : D.restart loss = { E with down := false, armed := -1 } := by unfold Dk.restart; rw [← hfold]
    rw [hR]
    obtain ⟨h1, h2, h3, hS⟩ := St.dkOpen hS
    replace hS : St w0 _ w [.box q 57 [.map (some mb), .map (some lb), .int .i64 E.steps, .int .i64 E.stamps, .int .i64 E.armed, .bool E.down], mapC mb (mmap encIt E.items), mapC lb (mmap encI E.limits)] _ := hS
    repeat' (first
      | (show WL _ _ _ _ _ _ _; first
        | refine WL.pure rfl rfl rfl rfl ?_
        | refine WL.nil ?_
        | (refine WL.store hS rfl rfl rfl (by repeat (first | exact StB.here rfl | apply StB.there)) rfl rfl rfl ?_; intro w hS))
      | (show WC _ _ _ _ _ _; first
        | refine WC.seq ?_
        | refine WC.region ?_
        | refine WC.exit ?_
        | refine WC.ret ?_
        | refine WC.condF rfl (decide_eq_false (by first | with_reducible assumption | omega)) ?_)
      | refine seqQ_n ?_
      | refine seqQ_x ?_
      | refine blkQ_hit rfl ?_
      | refine rndQ_x ?_)
    exact fin1r rfl rfl ⟨rfl, (St.dkClose { E with down := false, armed := -1 } h1 h2 h3 hS).mutOf (List.Mem.head _)⟩
end Go.Proofs.YtggalmiaofeikaaDoor

/- What is proved: the laws WalHolds and WalResets answer true. Conditions: texts of bounded length. -/
set_option linter.unusedSimpArgs false
set_option linter.unusedVariables false
namespace Go.J
open Go Go.RowKit
section
variable {P : Program} {N : Nat} {f : Fr} {w w0 : World} {Q : Post} {ops l : List Oper} {o : Oper} {M : List Nat} {H H' : List Chunk} {Z : List Snap} {ρ : Operand → Value}
theorem run_sliceTo {t e : TypeId} {size : Nat} {x y : Operand} {A : Option Addr} {n cap j : Nat} {k : IntKind} (ho : o.op = .slice t x none (some y) none) (he : elemOf P t = some (e, size)) (hx : ρ x = .slice A n cap) (hy : ρ y = .int k (Int.ofNat j)) (hj : j ≤ cap) :
    (execOp ρ o).run P w = .ok (.value (.slice (if cap = 0 then A else A.map (·.add 0)) j cap)) w := by
  unfold elemOf at he
  split at he
  · rename_i e' hu
    split at he
    · rename_i n' hn
      simp only [Option.some.injEq, Prod.mk.injEq] at he
      obtain ⟨rfl, rfl⟩ := he
      simp [execOp, ho, hx, hy, Instr.sliceAt, Instr.slice, Instr.sliceBounds, Instr.sliceBound, asIntOf, Sem.run_bind, run_underlying hu, run_sizeOf hn, hj]
    · cases he
  · cases he
theorem WL.sliceTo {t e : TypeId} {size : Nat} {x y : Operand} {A : Option Addr} {n cap j : Nat} {k : IntKind} (ho : o.op = .slice t x none (some y) none) (he : elemOf P t = some (e, size)) (hx : ev f x = .slice A n cap) (hy : ev f y = .int k (Int.ofNat j)) (hj : j ≤ cap)
    (hg : wants ops f o = true) {d : Nat} (hd : o.dst = some d) (hn : Nat.blt d N = true) (h : ∀ A', (∀ g off, A = some ⟨g, off, none⟩ → A' = A) → WL P N ops l (up f d (.slice A' j cap)) w Q) : WL P N ops (o :: l) f w Q :=
  .val hg hd hn (run_sliceTo ho he hx hy hj) (h _ fun g off e => by subst e; split <;> simp [Addr.add_mid])
theorem SlAt.toA {α : Type} {c : Cod α} {F : Nat → Prop} {w : World} {A A' : Option Addr} {xs : List α} (h : SlAt c F w A xs) (he : ∀ g off, A = some ⟨g, off, none⟩ → A' = A) : SlAt c F w A' xs := fun k hk => by
  obtain ⟨b, o, es, h1, h2, h3, h4⟩ := h k hk
  exact ⟨b, o, es, (he b o h1).trans h1, h2, h3, h4⟩
end
end Go.J
namespace Go.Proofs.YtggalmiaofeikaaDoor
open Go Go.J Go.RowKit

def dec (ar : Int) : Int := if 0 < ar then IntKind.i64.wrap (ar - 1) else ar
theorem step_gen (x : It) (st sp ar : Int) (dn : Bool) (h : ¬ ar = 0) : (Dl x st sp ar dn).step = Dl x (IntKind.i64.wrap (st + 1)) sp (dec ar) dn := by
  unfold Dk.step
  rw [if_neg (show ¬ (Dl x st sp ar dn).armed = 0 from h)]
  rfl
theorem append_gen (d k r : List UInt8) (lo an : Bool) (s st sp ar : Int) : (Dl ⟨false, d, k, lo, an, s⟩ st sp ar false).append lP r =
    if ar = 0 then (14, Dl ⟨false, d, k, lo, an, s⟩ st sp (-1) true) else (0, Dl ⟨false, d ++ r, k, true, an, IntKind.i64.wrap (sp + 1)⟩ (IntKind.i64.wrap (st + 1)) (IntKind.i64.wrap (sp + 1)) (dec ar) false) := by
  have hf : (Dl ⟨false, d, k, lo, an, s⟩ st sp ar false).file lP = 0 := by kernel_rfl
  unfold Dk.append
  rw [if_neg (fun h => h hf)]
  by_cases h : ar = 0
  · subst h; rfl
  · have hs : (Dl ⟨false, d, k, lo, an, s⟩ st sp ar false).stepE = 0 := if_neg h
    rw [if_neg (fun hh => hh hs), if_neg h, step_gen _ _ _ _ _ h]
    rfl
theorem sync_gen (d k : List UInt8) (lo an : Bool) (s st sp ar : Int) : (Dl ⟨false, d, k, lo, an, s⟩ st sp ar false).sync lP =
    if ar = 0 then (14, Dl ⟨false, d, k, lo, an, s⟩ st sp (-1) true) else (0, Dl ⟨false, d, d, false, false, s⟩ (IntKind.i64.wrap (st + 1)) sp (dec ar) false) := by
  have hf : (Dl ⟨false, d, k, lo, an, s⟩ st sp ar false).file lP = 0 := by kernel_rfl
  unfold Dk.sync
  rw [if_neg (fun h => h hf)]
  by_cases h : ar = 0
  · subst h; rfl
  · have hs : (Dl ⟨false, d, k, lo, an, s⟩ st sp ar false).stepE = 0 := if_neg h
    rw [if_neg (fun hh => hh hs), if_neg h, step_gen _ _ _ _ _ h]
    rfl
/-- a record added, wherever the machine stops -/
theorem add_gen (G : Lg) (hp : G.p = lP) (d k r : List UInt8) (lo an : Bool) (s st sp ar : Int) : walAdd G (Dl ⟨false, d, k, lo, an, s⟩ st sp ar false) r =
    if ar = 0 then (14, G, Dl ⟨false, d, k, lo, an, s⟩ st sp (-1) true)
    else if dec ar = 0 then (14, G, Dl ⟨false, d ++ packE r, k, true, an, IntKind.i64.wrap (sp + 1)⟩ (IntKind.i64.wrap (st + 1)) (IntKind.i64.wrap (sp + 1)) (-1) true)
    else (0, G.push r, Dl ⟨false, d ++ packE r, d ++ packE r, false, false, IntKind.i64.wrap (sp + 1)⟩ (IntKind.i64.wrap (IntKind.i64.wrap (st + 1) + 1)) (IntKind.i64.wrap (sp + 1)) (dec (dec ar)) false) := by
  unfold walAdd
  rw [hp, append_gen]
  by_cases h : ar = 0
  · rw [if_pos h, if_pos h]; rfl
  · rw [if_neg h, if_neg h]
    dsimp only
    rw [sync_gen]
    by_cases h2 : dec ar = 0
    · rw [if_pos h2, if_pos h2]; rfl
    · rw [if_neg h2, if_neg h2]; rfl
theorem keys_l (x : It) (st sp ar : Int) (dn : Bool) : (Dl x st sp ar dn).keys = [vP, lP] := by
  unfold Dk.keys
  exact List.mergeSort_of_pairwise (by simp [Dl]; decide)
theorem restart_same (d k : List UInt8) (an : Bool) (s st sp ar : Int) (dn : Bool) (loss : Int) : (Dl ⟨false, d, k, false, an, s⟩ st sp ar dn).restart loss = Dl ⟨false, d, k, false, an, s⟩ st sp (-1) false := by
  unfold Dk.restart Dk.lose
  rw [keys_l]
  rfl
theorem restart_loose (d k : List UInt8) (s st sp ar : Int) (dn : Bool) (loss : Int) (h : k.length ≤ d.length) : ∃ m, m ≤ d.length - k.length ∧ (Dl ⟨false, d, k, true, false, s⟩ st sp ar dn).restart loss = Dl ⟨false, d.take (k.length + m), d.take (k.length + m), false, false, IntKind.i64.wrap (sp + 1)⟩ st (IntKind.i64.wrap (sp + 1)) (-1) false := by
  have he0 := Int.emod_nonneg (mixE (IntKind.u64.wrap loss) (0 + 1)) (show ((d.length : Int) - k.length + 1) ≠ 0 by omega)
  have he1 := Int.emod_lt_of_pos (mixE (IntKind.u64.wrap loss) (0 + 1)) (show (0 : Int) < (d.length : Int) - k.length + 1 by omega)
  obtain ⟨m, hm⟩ : ∃ mm : Nat, mixE (IntKind.u64.wrap loss) (0 + 1) % ((d.length : Int) - k.length + 1) = (mm : Int) := ⟨_, (Int.toNat_of_nonneg he0).symm⟩
  rw [hm] at he0 he1
  refine ⟨m, by omega, ?_⟩
  have hK : loseK loss (0 + 1) ⟨false, d, k, true, false, s⟩ = d.take (k.length + m) := by
    unfold loseK
    rw [if_neg (show ¬ false = true by decide)]
    dsimp only
    rw [hm]
    congr 1
  have e : (Dl ⟨false, d, k, true, false, s⟩ st sp ar dn).restart loss = { (Dl ⟨false, d, k, true, false, s⟩ st sp ar dn).set lP ⟨false, loseK loss (0 + 1) ⟨false, d, k, true, false, s⟩, loseK loss (0 + 1) ⟨false, d, k, true, false, s⟩, false, false, s⟩ with down := false, armed := -1 } := by
    unfold Dk.restart Dk.lose
    rw [keys_l]
    rfl
  rw [e, hK]
  rfl
/-- what the disk may be where adding has stopped behind k records -/
def Stp (recs : List (List UInt8)) (k : Nat) (D : Dk) : Prop :=
  (∃ s st sp ar dn, D = Dl ⟨false, frames (recs.take k), frames (recs.take k), false, false, s⟩ st sp ar dn) ∨
  ∃ (h : k < recs.length), ∃ s st sp ar dn, D = Dl ⟨false, frames (recs.take k) ++ packE recs[k], frames (recs.take k), true, false, s⟩ st sp ar dn
/-- .. and what is read behind the next beginning -/
theorem stp_open {recs : List (List UInt8)} {k : Nat} {D : Dk} (hk : k ≤ recs.length) (h : Stp recs k D) (hsm : ∀ s ∈ recs, s.length < 9223372036854775808) (loss : Int) :
    ∃ x st sp m, D.restart loss = Dl x st sp (-1) false ∧ x.data.length ≤ (frames (recs.take (k + 1))).length ∧ (m = k ∨ m = k + 1) ∧ m ≤ recs.length ∧
      ∃ kp lo an s' st' sp', walOpen (D.restart loss) lP = (0, some ⟨lP, recs.take m, false⟩, Dl ⟨false, frames (recs.take m), kp, lo, an, s'⟩ st' sp' (-1) false) := by
  have hst : ∀ m, ∀ u ∈ recs.take m, u.length < 9223372036854775808 := fun m u hu => hsm u (List.mem_of_mem_take hu)
  have hle : (frames (recs.take k)).length ≤ (frames (recs.take (k + 1))).length := by
    rcases Nat.lt_or_ge k recs.length with h | h
    · rw [frames_take recs k h, List.length_append]; omega
    · rw [List.take_of_length_le (by omega), List.take_of_length_le (by omega)]; exact Nat.le_refl _
  rcases h with ⟨s, st, sp, ar, dn, rfl⟩ | ⟨hlt, s, st, sp, ar, dn, rfl⟩
  · rw [restart_same]
    refine ⟨_, _, _, k, rfl, hle, .inl rfl, hk, _, _, _, _, _, _, open_whole (recs.take k) (hst k) _ _ _ _ _ _ _⟩
  · obtain ⟨m, hm, hr⟩ := restart_loose (frames (recs.take k) ++ packE recs[k]) (frames (recs.take k)) s st sp ar dn loss (by rw [List.length_append]; omega)
    rw [List.length_append, Nat.add_sub_cancel_left] at hm
    have ht : (frames (recs.take k) ++ packE recs[k]).take ((frames (recs.take k)).length + m) = frames (recs.take k) ++ (packE recs[k]).take m := by
      rw [List.take_append, List.take_of_length_le (by omega), Nat.add_sub_cancel_left]
    rw [ht] at hr
    rw [hr]
    have hft := frames_take recs k hlt
    by_cases h0 : m = 0
    · subst h0
      simp only [List.take_zero, List.append_nil]
      exact ⟨_, _, _, k, rfl, hle, .inl rfl, hk, _, _, _, _, _, _, open_whole (recs.take k) (hst k) _ _ _ _ _ _ _⟩
    · by_cases h1 : m = (packE recs[k]).length
      · subst h1
        rw [List.take_length, ← hft]
        exact ⟨_, _, _, k + 1, rfl, Nat.le_refl _, .inr rfl, hlt, _, _, _, _, _, _, open_whole (recs.take (k + 1)) (hst (k + 1)) _ _ _ _ _ _ _⟩
      · refine ⟨_, _, _, k, rfl, by show (frames (recs.take k) ++ (packE recs[k]).take m).length ≤ _; rw [hft, List.length_append, List.length_append, List.length_take]; omega, .inl rfl, hk, ?_⟩
        have hsc := scanE_torn (recs.take k) recs[k] m (fun u hu => by
          rcases List.mem_append.1 hu with hu | hu
          · exact hst k u hu
          · rw [List.mem_singleton.1 hu]; exact hsm _ (List.getElem_mem hlt)) (by omega) (by omega)
        unfold walOpen
        rw [kind_l _ _ _ _ _ rfl, if_neg (by decide), read_l]
        dsimp only
        rw [if_neg (by decide), hsc]
        dsimp only
        rw [if_pos (by decide)]
        have ht2 : (frames (recs.take k) ++ (packE recs[k]).take m).take (frames (recs.take k)).length = frames (recs.take k) := by simp
        rw [ht2, fill_calm]
        exact ⟨_, _, _, _, _, _, rfl⟩
theorem frames_bound (recs : List (List UInt8)) (hl : (recs.map List.length).sum + recs.length ≤ 1048576) (k : Nat) : (frames (recs.take k)).length ≤ 16000000 := by
  have h1 := frames_len_le (recs.take k) (fun s hs => by have := mem_le_sum recs s (List.mem_of_mem_take hs); omega)
  have h2 := sum_take_le recs k
  have h3 : (recs.take k).length ≤ recs.length := by rw [List.length_take]; omega
  omega
theorem Kp_l {x : It} {st sp ar : Int} {dn : Bool} {B : Nat} (h1 : x.data.length ≤ B) (h2 : x.kept.length ≤ B) (h3 : x.loose = true → x.anew = false → x.kept.length ≤ x.data.length) : (Dl x st sp ar dn).Kp B := by
  intro y hy
  simp only [Dl, List.mem_cons, List.not_mem_nil, or_false] at hy
  rcases hy with rfl | rfl
  · exact ⟨Nat.zero_le _, Nat.zero_le _, fun h => by cases h⟩
  · exact ⟨h1, h2, h3⟩
theorem stp_ok {recs : List (List UInt8)} {k : Nat} {D : Dk} (h : Stp recs k D) (hb : ∀ k, (frames (recs.take k)).length ≤ 16000000) : D.Kp 1099511627776 ∧ D.items.length ≤ 1048576 ∧ ∀ x ∈ D.items, x.1.length ≤ 1099511627 := by
  have hk : ∀ (x : It) (st sp ar : Int) (dn : Bool), (Dl x st sp ar dn).items.length ≤ 1048576 ∧ ∀ y ∈ (Dl x st sp ar dn).items, y.1.length ≤ 1099511627 := fun x st sp ar dn => by
    refine ⟨by simp [Dl], fun y hy => ?_⟩
    simp only [Dl, List.mem_cons, List.not_mem_nil, or_false] at hy
    rcases hy with rfl | rfl
    · exact (by decide : vP.length ≤ 1099511627)
    · exact (by decide : lP.length ≤ 1099511627)
  have := hb k
  rcases h with ⟨s, st, sp, ar, dn, rfl⟩ | ⟨hlt, s, st, sp, ar, dn, rfl⟩
  · exact ⟨Kp_l (by show (frames (recs.take k)).length ≤ _; omega) (by show (frames (recs.take k)).length ≤ _; omega) (fun h => by cases h), hk _ _ _ _ _⟩
  · have h2 := hb (k + 1)
    rw [frames_take recs k hlt] at h2
    exact ⟨Kp_l (by show (frames (recs.take k) ++ packE recs[k]).length ≤ _; omega) (by show (frames (recs.take k)).length ≤ _; omega) (fun _ _ => by show (frames (recs.take k)).length ≤ (frames (recs.take k) ++ packE recs[k]).length; rw [List.length_append]; omega), hk _ _ _ _ _⟩
theorem Sm_x {x : It} {st sp ar : Int} {dn : Bool} {B : Nat} (h : x.data.length ≤ B) : (Dl x st sp ar dn).Sm B := by
  refine ⟨rfl, fun y hy => ?_⟩
  simp only [Dl, List.mem_cons, List.not_mem_nil, or_false] at hy
  rcases hy with rfl | rfl
  · exact Nat.zero_le _
  · exact h
set_option maxHeartbeats 16000000 in
set_option maxRecDepth 100000 in
theorem walHolds_c (recs : List (List UInt8)) (A : Option Addr) (cap : Nat) (stop loss : Int) (w0 : World) (hA : SlAt cStr (Old w0) w0 A recs) (hcap : recs.length ≤ cap) (hl : (recs.map List.length).sum + recs.length ≤ 1048576) :
    Cal Tryd.prog 5 [.slice A recs.length cap, .int .i64 stop, .int .i64 loss] w0 (fun v w' => Upd [] w0 w' ∧ v = .bool true) := by
  refine Cal.mk' (by kernel_rfl) Tryd.func5 rfl rfl fun hS => ?_
  have hsm : ∀ s ∈ recs, s.length ≤ 1048576 := fun s hs => by have := mem_le_sum recs s hs; omega
  have hsm' : ∀ s ∈ recs, s.length < 9223372036854775808 := fun s hs => by have := hsm s hs; omega
  have hfl := frames_bound recs hl
  repeat' (first
    | (show WL _ _ _ _ _ _ _; first
      | refine WL.pure rfl rfl rfl rfl ?_
      | refine WL.nil ?_
      | (refine WL.callL (D := []) hS (by repeat (first | exact Pulls.nil | (apply Pulls.cons; focus (repeat (first | exact Pull.here | apply Pull.there))))) rfl rfl (fun hI => made_c _) rfl rfl rfl ?_; rintro v w ⟨q, mb, lb, rfl, hm⟩ hS; replace hS := hS _ hm; clear hm)
      | (refine WL.calls hS rfl rfl (wawake_c _) rfl rfl rfl ?_; rintro v w rfl hS)
      | (refine WL.callL (D := [dkC q mb lb Dv0]) hS (by repeat (first | exact Pulls.nil | (apply Pulls.cons; focus (repeat (first | exact Pull.here | apply Pull.there))))) rfl rfl (fun hI => open_c lP hI (by decide) Sm_v) rfl rfl rfl ?_; rintro v w hR hS; rw [open_new] at hR; obtain ⟨L, fp, rfl, hm⟩ := hR; replace hS := hS _ hm; clear hm)
      | (refine WL.callL (D := [dkC q mb lb _]) hS (by repeat (first | exact Pulls.nil | (apply Pulls.cons; focus (repeat (first | exact Pull.here | apply Pull.there))))) rfl rfl (fun hI => arm_c stop hI.head hI.headB) rfl rfl rfl ?_; rintro v w ⟨rfl, hm⟩ hS; replace hS := hS _ (.of1 hm); clear hm))
    | (show WC _ _ _ _ _ _; first
      | (show WC _ _ (Code.seq (Code.block 0 (Code.loop _)) _) _ _ _; refine WC.cutS (σ := Nat × List Nat × Dk) [0, 1, 2, 7, 8] (fun (k, fp, D) => [(10, .int .i64 (k : Int))]) (fun (k, fp, D) w => k ≤ recs.length ∧ Stp recs k D ∧ St w0 [] w [lgC L q ⟨lP, recs.take k, false⟩ fp, dkC q mb lb D] [⟨w0, Old w0⟩]) ?_ ?_)
      | refine WC.seq ?_
      | refine WC.region ?_
      | refine WC.block ?_
      | refine WC.skip ?_
      | refine WC.condF rfl (by with_reducible rfl) ?_
      | refine WC.condF rfl (by decide) ?_)
    | refine seqQ_n ?_)
  · have hS := hS.droplast2 (D := [lgC L q ⟨lP, [], false⟩ fp, dkC q mb lb (Dl ⟨false, [], [], false, false, 2⟩ 4 2 (max (-1) stop) false)]) (by repeat (first | exact Pulls.nil | (apply Pulls.cons; focus (repeat (first | exact Pull.here | apply Pull.there)))))
    refine WC.loop (σ := Nat × List Nat × Int × Int × Int × Int) [0, 1, 2, 7, 8] (fun (k, fp, s, st, sp, ar) => [(10, .int .i64 (k : Int))])
      (fun (k, fp, s, st, sp, ar) w => k ≤ recs.length ∧ St w0 [] w [lgC L q ⟨lP, recs.take k, false⟩ fp, dkC q mb lb (Dl ⟨false, frames (recs.take k), frames (recs.take k), false, false, s⟩ st sp ar false)] [⟨w0, Old w0⟩])
      (fun (k, _) => recs.length - k) (0, fp, 2, 4, 2, max (-1) stop) ⟨Nat.zero_le _, hS⟩ ⟨rfl, trivial⟩ ?_
    clear hS
    rintro ⟨k, fp, s, st, sp, ar⟩ g w ⟨hk, hS⟩
    show WC _ _ _ (lf _ [(10, .int .i64 (k : Int))] _ _) _ _
    by_cases hlt : k < recs.length
    · by_cases h60 : k < 60
      · obtain ⟨b1, o1, e1, rfl, f1, r1, rfl⟩ := hA.at_ hlt
        change w0.rangeAt b1 (o1 + k * 1) [str recs[k]] at r1
        have hadd := add_gen ⟨lP, recs.take k, false⟩ rfl (frames (recs.take k)) (frames (recs.take k)) recs[k] false false s st sp ar
        have hrl := hsm recs[k] (List.getElem_mem hlt)
        have hfk := hfl k
        have hft := frames_take recs k hlt
        have htk : recs.take (k + 1) = recs.take k ++ [recs[k]] := List.take_succ_eq_append_getElem hlt
        have htl : (recs.take k).length ≤ 4194304 := by rw [List.length_take]; omega
        have hstp : Stp recs k (Dl ⟨false, frames (recs.take k) ++ packE recs[k], frames (recs.take k), true, false, IntKind.i64.wrap (sp + 1)⟩ (IntKind.i64.wrap (st + 1)) (IntKind.i64.wrap (sp + 1)) (-1) true) := .inr ⟨hlt, _, _, _, _, _, rfl⟩
        generalize recs[k] = r at *
        by_cases h0 : ar = 0
        · rw [if_pos h0] at hadd
          repeat' (first
            | (show WL _ _ _ _ _ _ _; first
              | refine WL.pure rfl rfl rfl rfl ?_
              | refine WL.nil ?_
              | (refine WL.load hS rfl rfl (LdOk.snap0 f1 r1 (by repeat (first | exact List.Mem.head _ | apply List.Mem.tail)) rfl) rfl rfl rfl ?_)
              | (refine WL.callL (D := [lgC L q ⟨lP, recs.take k, false⟩ fp, dkC q mb lb _]) hS (by repeat (first | exact Pulls.nil | (apply Pulls.cons; focus (repeat (first | exact Pull.here | apply Pull.there))))) rfl rfl (fun hI => add_c r hI hadd lP_len rfl (by omega) (by rw [Dk.step_at]; show (frames (recs.take k)).length ≤ _; omega) htl) rfl rfl rfl ?_; rintro v w ⟨rfl, fp', hm⟩ hS; replace hS := hS _ hm; clear hm)
              | refine WL.index rfl rfl rfl rfl (by first | with_reducible assumption | omega) rfl rfl rfl rfl ?_
              | ((fail_if_success (refine WL.wanted rfl ?_)); refine WL.guard rfl rfl rfl (fun h => ?_) (fun h => ?_) <;> (try simp only [Classical.not_not, Bool.not_eq_true', Bool.not_eq_false', Bool.not_eq_eq_eq_not, Bool.not_true, Bool.not_false, beq_iff_eq, beq_eq_false_iff_ne, ne_eq, decide_eq_decide, decide_eq_true_eq, decide_eq_false_iff_not, Bool.and_eq_true, Bool.or_eq_true, Bool.and_eq_false_iff, Bool.or_eq_false_iff] at h) <;> (try (exfalso; first | omega | contradiction))))
            | (show WC _ _ _ _ _ _; first
              | refine WC.seq ?_
              | refine WC.region ?_
              | refine WC.exit ?_
              | refine WC.condF rfl (by decide) ?_)
            | refine seqQ_n ?_
            | refine seqQ_x ?_
            | refine blkQ_hit rfl ?_
            | refine rndQ_x ?_)
          exact endQ_n (k, fp', _) ⟨hk, .inl ⟨_, _, _, _, _, rfl⟩, hS⟩ ⟨rfl, trivial⟩ ⟨rfl, rfl, rfl, rfl, rfl, trivial⟩
        · rw [if_neg h0] at hadd
          by_cases h1 : dec ar = 0
          · rw [if_pos h1] at hadd
            repeat' (first
              | (show WL _ _ _ _ _ _ _; first
                | refine WL.pure rfl rfl rfl rfl ?_
                | refine WL.nil ?_
                | (refine WL.load hS rfl rfl (LdOk.snap0 f1 r1 (by repeat (first | exact List.Mem.head _ | apply List.Mem.tail)) rfl) rfl rfl rfl ?_)
                | (refine WL.callL (D := [lgC L q ⟨lP, recs.take k, false⟩ fp, dkC q mb lb _]) hS (by repeat (first | exact Pulls.nil | (apply Pulls.cons; focus (repeat (first | exact Pull.here | apply Pull.there))))) rfl rfl (fun hI => add_c r hI hadd lP_len rfl (by omega) (by rw [Dk.step_at]; show (frames (recs.take k)).length ≤ _; omega) htl) rfl rfl rfl ?_; rintro v w ⟨rfl, fp', hm⟩ hS; replace hS := hS _ hm; clear hm)
                | refine WL.index rfl rfl rfl rfl (by first | with_reducible assumption | omega) rfl rfl rfl rfl ?_
                | ((fail_if_success (refine WL.wanted rfl ?_)); refine WL.guard rfl rfl rfl (fun h => ?_) (fun h => ?_) <;> (try simp only [Classical.not_not, Bool.not_eq_true', Bool.not_eq_false', Bool.not_eq_eq_eq_not, Bool.not_true, Bool.not_false, beq_iff_eq, beq_eq_false_iff_ne, ne_eq, decide_eq_decide, decide_eq_true_eq, decide_eq_false_iff_not, Bool.and_eq_true, Bool.or_eq_true, Bool.and_eq_false_iff, Bool.or_eq_false_iff] at h) <;> (try (exfalso; first | omega | contradiction))))
              | (show WC _ _ _ _ _ _; first
                | refine WC.seq ?_
                | refine WC.region ?_
                | refine WC.exit ?_
                | refine WC.condF rfl (by decide) ?_)
              | refine seqQ_n ?_
              | refine seqQ_x ?_
              | refine blkQ_hit rfl ?_
              | refine rndQ_x ?_)
            exact endQ_n (k, fp', _) ⟨hk, hstp, hS⟩ ⟨rfl, trivial⟩ ⟨rfl, rfl, rfl, rfl, rfl, trivial⟩
          · rw [if_neg h1] at hadd
            repeat' (first
              | (show WL _ _ _ _ _ _ _; first
                | refine WL.pure rfl rfl rfl rfl ?_
                | refine WL.nil ?_
                | refine WL.add rfl rfl rfl (by omega) rfl rfl rfl ?_
                | (refine WL.load hS rfl rfl (LdOk.snap0 f1 r1 (by repeat (first | exact List.Mem.head _ | apply List.Mem.tail)) rfl) rfl rfl rfl ?_)
                | (refine WL.callL (D := [lgC L q ⟨lP, recs.take k, false⟩ fp, dkC q mb lb _]) hS (by repeat (first | exact Pulls.nil | (apply Pulls.cons; focus (repeat (first | exact Pull.here | apply Pull.there))))) rfl rfl (fun hI => add_c r hI hadd lP_len rfl (by omega) (by rw [Dk.step_at]; show (frames (recs.take k)).length ≤ _; omega) htl) rfl rfl rfl ?_; rintro v w ⟨rfl, fp', hm⟩ hS; replace hS := hS _ hm; clear hm)
                | refine WL.index rfl rfl rfl rfl (by first | with_reducible assumption | omega) rfl rfl rfl rfl ?_
                | ((fail_if_success (refine WL.wanted rfl ?_)); refine WL.guard rfl rfl rfl (fun h => ?_) (fun h => ?_) <;> (try simp only [Classical.not_not, Bool.not_eq_true', Bool.not_eq_false', Bool.not_eq_eq_eq_not, Bool.not_true, Bool.not_false, beq_iff_eq, beq_eq_false_iff_ne, ne_eq, decide_eq_decide, decide_eq_true_eq, decide_eq_false_iff_not, Bool.and_eq_true, Bool.or_eq_true, Bool.and_eq_false_iff, Bool.or_eq_false_iff] at h) <;> (try (exfalso; first | omega | contradiction))))
              | (show WC _ _ _ _ _ _; first
                | refine WC.seq ?_
                | refine WC.region ?_
                | refine WC.block ?_
                | refine WC.skip ?_
                | refine WC.condT rfl (by decide) ?_)
              | refine seqQ_n ?_
              | refine blkQ_n ?_)
            exact rndQ_n (k + 1, fp', _, _, _, _) ⟨hlt, by rw [htk, frames_app, frames_one]; exact hS⟩ (by show recs.length - (k + 1) < recs.length - k; omega) ⟨vint (by omega), trivial⟩ ⟨rfl, rfl, rfl, rfl, rfl, trivial⟩
      · repeat' (first
          | (show WL _ _ _ _ _ _ _; first
            | refine WL.pure rfl rfl rfl rfl ?_
            | refine WL.nil ?_
            | refine WL.skip rfl rfl rfl ?_
            | ((fail_if_success (refine WL.wanted rfl ?_)); refine WL.guard rfl rfl rfl (fun h => ?_) (fun h => ?_) <;> (try simp only [Classical.not_not, Bool.not_eq_true', Bool.not_eq_false', Bool.not_eq_eq_eq_not, Bool.not_true, Bool.not_false, beq_iff_eq, beq_eq_false_iff_ne, ne_eq, decide_eq_decide, decide_eq_true_eq, decide_eq_false_iff_not, Bool.and_eq_true, Bool.or_eq_true, Bool.and_eq_false_iff, Bool.or_eq_false_iff] at h) <;> (try (exfalso; first | omega | contradiction))))
          | (show WC _ _ _ _ _ _; first
            | refine WC.seq ?_
            | refine WC.region ?_
            | refine WC.exit ?_
            | refine WC.condF rfl (by with_reducible rfl) ?_)
          | refine seqQ_n ?_
          | refine seqQ_x ?_
          | refine blkQ_hit rfl ?_
          | refine rndQ_x ?_)
        exact endQ_n (k, fp, _) ⟨hk, .inl ⟨_, _, _, _, _, rfl⟩, hS⟩ ⟨rfl, trivial⟩ ⟨rfl, rfl, rfl, rfl, rfl, trivial⟩
    · repeat' (first
        | (show WL _ _ _ _ _ _ _; first
          | refine WL.pure rfl rfl rfl rfl ?_
          | refine WL.nil ?_
          | refine WL.skip rfl rfl rfl ?_
          | ((fail_if_success (refine WL.wanted rfl ?_)); refine WL.guard rfl rfl rfl (fun h => ?_) (fun h => ?_) <;> (try simp only [Classical.not_not, Bool.not_eq_true', Bool.not_eq_false', Bool.not_eq_eq_eq_not, Bool.not_true, Bool.not_false, beq_iff_eq, beq_eq_false_iff_ne, ne_eq, decide_eq_decide, decide_eq_true_eq, decide_eq_false_iff_not, Bool.and_eq_true, Bool.or_eq_true, Bool.and_eq_false_iff, Bool.or_eq_false_iff] at h) <;> (try (exfalso; first | omega | contradiction))))
        | (show WC _ _ _ _ _ _; first
          | refine WC.seq ?_
          | refine WC.region ?_
          | refine WC.exit ?_
          | refine WC.condF rfl (by with_reducible rfl) ?_)
        | refine seqQ_n ?_
        | refine seqQ_x ?_
        | refine blkQ_hit rfl ?_
        | refine rndQ_x ?_)
      exact endQ_n (k, fp, _) ⟨hk, .inl ⟨_, _, _, _, _, rfl⟩, hS⟩ ⟨rfl, trivial⟩ ⟨rfl, rfl, rfl, rfl, rfl, trivial⟩
  · clear hS
    rintro ⟨k, fp, D⟩ g w ⟨hk, hst, hS⟩
    show WC _ _ _ (lf _ [(10, .int .i64 (k : Int))] _ _) _ _
    obtain ⟨hkp, hkl, hkk⟩ := stp_ok hst hfl
    obtain ⟨x, st, sp, m, hx, hxl, hm, hml, kp, lo, an, s', st', sp', ho⟩ := stp_open hk hst hsm' loss
    have hf1 := hfl (k + 1)
    have hfm := hfl m
    rw [hx] at ho
    have htl : (recs.take m).length = m := by rw [List.length_take]; omega
    obtain ⟨s2, st2, sp2, ha⟩ := add_calm ⟨lP, recs.take m, false⟩ rfl (frames (recs.take m)) kp [109, 111, 114, 101] lo an s' st' sp'
    have ho2 := open_whole (recs.take m ++ [[109, 111, 114, 101]]) (fun u hu => by
      rcases List.mem_append.1 hu with hu | hu
      · exact hsm' u (List.mem_of_mem_take hu)
      · rw [List.mem_singleton.1 hu]; decide) (frames (recs.take m) ++ packE [109, 111, 114, 101]) false false s2 st2 sp2 (-1)
    have hfe : frames (recs.take m ++ [[109, 111, 114, 101]]) = frames (recs.take m) ++ packE [109, 111, 114, 101] := by rw [frames_app, frames_one]
    rw [hfe] at ho2
    have hp1 : (packE [109, 111, 114, 101]).length ≤ 18 := by rw [packE_len]; have := putN_len10 (n := 4) (by decide); simp; omega
    clear hst hfe
    have htl2 : (recs.take m ++ [[109, 111, 114, 101]]).length = m + 1 := by rw [List.length_append, htl]; rfl
    have hx2 : (strs (recs.take m ++ [[109, 111, 114, 101]]))[m * 1]? = some (str [109, 111, 114, 101]) := by
      rw [Nat.mul_one, strs_at (by omega), List.getElem_append_right (by omega)]
      simp [htl]
    have hTm := SlAt.take hA m
    generalize recs.take m = rm at *
    have hadd : ({ p := lP, recs := rm, dmg := false } : Lg).push [109, 111, 114, 101] = ⟨lP, rm ++ [[109, 111, 114, 101]], false⟩ := rfl
    rw [hadd] at ha
    generalize rm ++ [[109, 111, 114, 101]] = rn at *
    clear hadd
    rcases hm with rfl | rfl
    all_goals
      repeat' (first
        | (show WL _ _ _ _ _ _ _; first
          | refine WL.pure rfl rfl rfl rfl ?_
          | refine WL.nil ?_
          | refine WL.add rfl rfl rfl (by omega) rfl rfl rfl ?_
          | (refine WL.callL (D := [dkC q mb lb D]) hS (by repeat (first | exact Pulls.nil | (apply Pulls.cons; focus (repeat (first | exact Pull.here | apply Pull.there))))) rfl rfl (fun hI => restart_c loss hI.head hI.headB hkp hkl hkk) rfl rfl rfl ?_; rintro v w ⟨rfl, hm⟩ hS; replace hS := hS _ (.of1 hm); clear hm; rw [hx] at hS)
          | (refine WL.callL (D := [dkC q mb lb (Dl x st sp (-1) false)]) hS (by repeat (first | exact Pulls.nil | (apply Pulls.cons; focus (repeat (first | exact Pull.here | apply Pull.there))))) rfl rfl (fun hI => open_c lP hI lP_len (Sm_x (by omega))) rfl rfl rfl ?_; rintro v w hR hS; rw [ho] at hR; obtain ⟨L2, fp2, rfl, hm⟩ := hR; replace hS := hS _ hm; clear hm)
          | (refine WL.callL (D := [lgC L2 q ⟨lP, rm, false⟩ fp2]) hS (by repeat (first | exact Pulls.nil | (apply Pulls.cons; focus (repeat (first | exact Pull.here | apply Pull.there))))) rfl rfl (fun hI => damaged_c hI) rfl rfl rfl ?_; rintro v w ⟨rfl, hm⟩ hS; replace hS := hS _ hm; clear hm)
          | (refine WL.callL (D := [lgC L2 q ⟨lP, rm, false⟩ fp2]) hS (by repeat (first | exact Pulls.nil | (apply Pulls.cons; focus (repeat (first | exact Pull.here | apply Pull.there))))) rfl rfl (fun hI => records_c hI (by show rm.length ≤ _; omega)) rfl rfl rfl ?_; rintro v w ⟨A3, cap3, rfl, hm⟩ hS; rw [htl] at hm ⊢; replace hS := hS _ hm; clear hm)
          | (refine WL.sliceTo rfl rfl rfl rfl (by omega) rfl rfl rfl ?_; intro A5 hA5)
          | (refine WL.calls hS rfl rfl (same_n rm rm htl.symm htl.symm (hS.ownSl (l := rm) (enc := fun s => [str s]) (hsz := fun _ => rfl) (by decide) (by repeat (first | exact List.Mem.head _ | apply List.Mem.tail))) (hS.slO (z := ⟨w0, Old w0⟩) (by repeat (first | exact List.Mem.head _ | apply List.Mem.tail)) (SlAt.toA hTm hA5)) (by omega)) rfl rfl rfl ?_; rintro v w rfl hS)
          | (refine WL.callL (D := [lgC L2 q ⟨lP, rm, false⟩ fp2, dkC q mb lb _]) hS (by repeat (first | exact Pulls.nil | (apply Pulls.cons; focus (repeat (first | exact Pull.here | apply Pull.there))))) rfl rfl (fun hI => add_c [109, 111, 114, 101] hI ha lP_len rfl (by decide) (by rw [Dk.step_at]; show (frames rm).length ≤ _; omega) (by show rm.length ≤ _; omega)) rfl rfl rfl ?_; rintro v w ⟨rfl, fp3, hm⟩ hS; replace hS := hS _ hm; clear hm)
          | (refine WL.callL (D := [dkC q mb lb _]) hS (by repeat (first | exact Pulls.nil | (apply Pulls.cons; focus (repeat (first | exact Pull.here | apply Pull.there))))) rfl rfl (fun hI => open_c lP hI lP_len (Sm_l (by rw [List.length_append]; omega))) rfl rfl rfl ?_; rintro v w hR hS; rw [ho2] at hR; obtain ⟨L3, fp4, rfl, hm⟩ := hR; replace hS := hS _ hm; clear hm)
          | (refine WL.callL (D := [lgC L3 q ⟨lP, rn, false⟩ fp4]) hS (by repeat (first | exact Pulls.nil | (apply Pulls.cons; focus (repeat (first | exact Pull.here | apply Pull.there))))) rfl rfl (fun hI => records_c hI (by show rn.length ≤ _; omega)) rfl rfl rfl ?_; rintro v w ⟨A4, cap4, rfl, hm⟩ hS; rw [htl2] at hm ⊢; replace hS := hS _ hm; clear hm; obtain ⟨ga, oa, rfl⟩ := hS.own_addr (A := A4) (by repeat (first | exact List.Mem.head _ | apply List.Mem.tail)) (by omega))
          | (refine WL.load hS rfl rfl (LdOk.ownAt (by repeat (first | exact List.Mem.head _ | apply List.Mem.tail)) rfl ⟨_, rfl⟩ hx2 rfl) rfl rfl rfl ?_)
          | refine WL.index rfl rfl rfl rfl (by first | with_reducible assumption | omega) rfl rfl rfl rfl ?_
          | refine WL.skip rfl rfl rfl ?_
          | ((fail_if_success (refine WL.wanted rfl ?_)); refine WL.guard rfl rfl rfl (fun h => ?_) (fun h => ?_) <;> (try simp only [Classical.not_not, Bool.not_eq_true', Bool.not_eq_false', Bool.not_eq_eq_eq_not, Bool.not_true, Bool.not_false, beq_iff_eq, beq_eq_false_iff_ne, ne_eq, decide_eq_decide, decide_eq_true_eq, decide_eq_false_iff_not, Bool.and_eq_true, Bool.or_eq_true, Bool.and_eq_false_iff, Bool.or_eq_false_iff] at h) <;> (try (exfalso; first | omega | contradiction))))
        | (show WC _ _ _ _ _ _; first
          | refine WC.seq ?_
          | refine WC.region ?_
          | refine WC.skip ?_
          | refine WC.ret ?_
          | refine WC.condF rfl (by with_reducible rfl) ?_
          | refine WC.condF rfl (by decide) ?_
          | refine WC.condF rfl (by first | (simp; done) | (simp; omega)) ?_)
        | refine seqQ_n ?_)
      all_goals exact fin1r rfl rfl ⟨hS.upd, vbool (by simp)⟩
theorem walHolds.key_walHolds (W : World) (v0 v1 v2 : Value) (y0 : List (List UInt8)) (y1 y2 : Int) (b0 b1 b2 : Nat) (h0 : ASl cStr W v0 y0) (h1 : AInt W v1 y1) (h2 : AInt W v2 y2) (q0 : QL QStr y0 b0) (q1 : QInt y1 b1) (q2 : QInt y2 b2) (hb : b0 + b1 + b2 ≤ 1048576) :
    Cal Tryd.prog 5 [v0, v1, v2] W (fun v W' => Upd [] W W' ∧ v = .bool true) := by
  obtain ⟨A, cap, rfl, hcap, hsl⟩ := h0
  obtain rfl := h1
  obtain rfl := h2
  exact walHolds_c y0 A cap y1 y2 W hsl hcap (by have := ql_strs q0; omega)
end Go.Proofs.YtggalmiaofeikaaDoor

/- What is proved: the law WalResets answers true. Conditions: texts of bounded length. -/
set_option linter.unusedSimpArgs false
set_option linter.unusedVariables false
namespace Go.Proofs.YtggalmiaofeikaaDoor
open Go Go.J Go.RowKit

abbrev tP : List UInt8 := [118, 47, 108, 111, 103, 95, 116]
/-- the disk, with the journal's file x and the file that is to come in its place -/
def Dt (x t : It) (st sp ar : Int) (dn : Bool) : Dk := ⟨[(vP, VD), (lP, x), (tP, t)], [], st, sp, ar, dn⟩
theorem step_t (x t : It) (st sp ar : Int) (dn : Bool) (h : ¬ ar = 0) : (Dt x t st sp ar dn).step = Dt x t (IntKind.i64.wrap (st + 1)) sp (dec ar) dn := by
  unfold Dk.step
  rw [if_neg (show ¬ (Dt x t st sp ar dn).armed = 0 from h)]
  rfl
theorem write_gen (d k : List UInt8) (lo an : Bool) (s st sp ar : Int) : (Dl ⟨false, d, k, lo, an, s⟩ st sp ar false).write tP [] =
    if ar = 0 then (14, Dl ⟨false, d, k, lo, an, s⟩ st sp (-1) true) else (0, Dt ⟨false, d, k, lo, an, s⟩ ⟨false, [], [], true, true, IntKind.i64.wrap (sp + 1)⟩ (IntKind.i64.wrap (st + 1)) (IntKind.i64.wrap (sp + 1)) (dec ar) false) := by
  have h1 : (Dl ⟨false, d, k, lo, an, s⟩ st sp ar false).may tP 1 = 0 := by kernel_rfl
  have h2 : (Dl ⟨false, d, k, lo, an, s⟩ st sp ar false).under tP = true := by kernel_rfl
  have h3 : ((Dl ⟨false, d, k, lo, an, s⟩ st sp ar false).at tP).dir = false := by kernel_rfl
  unfold Dk.write
  rw [if_neg (fun h => h h1), if_neg (by rw [h2]; decide), if_neg (by rw [h3]; decide)]
  by_cases h : ar = 0
  · subst h; rfl
  · have hs : (Dl ⟨false, d, k, lo, an, s⟩ st sp ar false).stepE = 0 := if_neg h
    rw [if_neg (fun hh => hh hs), if_neg h, step_gen _ _ _ _ _ h]
    rfl
theorem synct_gen (x : It) (lo an : Bool) (s st sp ar : Int) : (Dt x ⟨false, [], [], lo, an, s⟩ st sp ar false).sync tP =
    if ar = 0 then (14, Dt x ⟨false, [], [], lo, an, s⟩ st sp (-1) true) else (0, Dt x ⟨false, [], [], false, false, s⟩ (IntKind.i64.wrap (st + 1)) sp (dec ar) false) := by
  have hf : (Dt x ⟨false, [], [], lo, an, s⟩ st sp ar false).file tP = 0 := by kernel_rfl
  unfold Dk.sync
  rw [if_neg (fun h => h hf)]
  by_cases h : ar = 0
  · subst h; rfl
  · have hs : (Dt x ⟨false, [], [], lo, an, s⟩ st sp ar false).stepE = 0 := if_neg h
    rw [if_neg (fun hh => hh hs), if_neg h, step_t _ _ _ _ _ _ h]
    rfl
theorem rename_gen (d k : List UInt8) (lo an lo2 an2 : Bool) (s s2 st sp ar : Int) : (Dt ⟨false, d, k, lo, an, s⟩ ⟨false, [], [], lo2, an2, s2⟩ st sp ar false).rename tP lP =
    if ar = 0 then (14, Dt ⟨false, d, k, lo, an, s⟩ ⟨false, [], [], lo2, an2, s2⟩ st sp (-1) true) else (0, Dl ⟨false, [], [], lo2, an2, IntKind.i64.wrap (sp + 1)⟩ (IntKind.i64.wrap (st + 1)) (IntKind.i64.wrap (sp + 1)) (dec ar) false) := by
  have h1 : (Dt ⟨false, d, k, lo, an, s⟩ ⟨false, [], [], lo2, an2, s2⟩ st sp ar false).may tP 1 = 0 := by kernel_rfl
  have h2 : (Dt ⟨false, d, k, lo, an, s⟩ ⟨false, [], [], lo2, an2, s2⟩ st sp ar false).may lP 1 = 0 := by kernel_rfl
  have h3 : (Dt ⟨false, d, k, lo, an, s⟩ ⟨false, [], [], lo2, an2, s2⟩ st sp ar false).has tP = true := by kernel_rfl
  have h4 : (Dt ⟨false, d, k, lo, an, s⟩ ⟨false, [], [], lo2, an2, s2⟩ st sp ar false).under lP = true := by kernel_rfl
  have h5 : ((Dt ⟨false, d, k, lo, an, s⟩ ⟨false, [], [], lo2, an2, s2⟩ st sp ar false).at tP).dir = false := by kernel_rfl
  have h6 : ((Dt ⟨false, d, k, lo, an, s⟩ ⟨false, [], [], lo2, an2, s2⟩ st sp ar false).at lP).dir = false := by kernel_rfl
  unfold Dk.rename
  rw [if_neg (fun h => h h1), if_neg (fun h => h h2), if_neg (by rw [h3, h4]; decide), if_neg (by rw [h5, h6]; decide)]
  by_cases h : ar = 0
  · subst h; rfl
  · have hs : (Dt ⟨false, d, k, lo, an, s⟩ ⟨false, [], [], lo2, an2, s2⟩ st sp ar false).stepE = 0 := if_neg h
    rw [if_neg (fun hh => hh hs), if_neg h, step_t _ _ _ _ _ _ h]
    rfl
/-- what a reset may have left: the error, and the disk -/
def Rst (F : List UInt8) (e : Int) (D : Dk) : Prop :=
  (e = 14 ∧ ((∃ s st sp ar dn, D = Dl ⟨false, F, F, false, false, s⟩ st sp ar dn) ∨ ∃ s an lo s2 st sp ar dn, D = Dt ⟨false, F, F, false, false, s⟩ ⟨false, [], [], lo, an, s2⟩ st sp ar dn ∧ (lo = true → an = true))) ∨
  (e = 0 ∧ ∃ s st sp ar dn, D = Dl ⟨false, [], [], false, false, s⟩ st sp ar dn)
theorem fill_gen (F : List UInt8) (s st sp ar : Int) : Rst F ((Dl ⟨false, F, F, false, false, s⟩ st sp ar false).fill lP []).1 ((Dl ⟨false, F, F, false, false, s⟩ st sp ar false).fill lP []).2 := by
  unfold Dk.fill
  have e : lP ++ [95, 116] = tP := rfl
  rw [e, write_gen]
  by_cases h0 : ar = 0
  · rw [if_pos h0, if_pos (show (14 : Int) ≠ 0 by decide)]
    exact .inl ⟨rfl, .inl ⟨_, _, _, _, _, rfl⟩⟩
  · rw [if_neg h0]
    dsimp only
    rw [if_neg (by decide), synct_gen]
    by_cases h1 : dec ar = 0
    · rw [if_pos h1, if_pos (show (14 : Int) ≠ 0 by decide)]
      exact .inl ⟨rfl, .inr ⟨_, _, _, _, _, _, _, _, rfl, fun _ => rfl⟩⟩
    · rw [if_neg h1]
      dsimp only
      rw [if_neg (by decide), rename_gen]
      by_cases h2 : dec (dec ar) = 0
      · rw [if_pos h2]
        exact .inl ⟨rfl, .inr ⟨_, _, _, _, _, _, _, _, rfl, fun h => by cases h⟩⟩
      · rw [if_neg h2]
        exact .inr ⟨rfl, _, _, _, _, _, rfl⟩
theorem keys_t (x t : It) (st sp ar : Int) (dn : Bool) : (Dt x t st sp ar dn).keys = [vP, lP, tP] := by
  unfold Dk.keys
  exact List.mergeSort_of_pairwise (by simp [Dt]; decide)
theorem restart_t (F : List UInt8) (s : Int) (an lo : Bool) (s2 st sp ar : Int) (dn : Bool) (h : lo = true → an = true) (loss : Int) :
    ∃ t st' sp', (Dt ⟨false, F, F, false, false, s⟩ ⟨false, [], [], lo, an, s2⟩ st sp ar dn).restart loss = Dt ⟨false, F, F, false, false, s⟩ t st' sp' (-1) false ∧ t.data.length = 0 := by
  cases lo with
  | false =>
    have e : (Dt ⟨false, F, F, false, false, s⟩ ⟨false, [], [], false, an, s2⟩ st sp ar dn).restart loss = Dt ⟨false, F, F, false, false, s⟩ ⟨false, [], [], false, an, s2⟩ st sp (-1) false := by
      unfold Dk.restart Dk.lose
      rw [keys_t]
      rfl
    exact ⟨_, _, _, e, rfl⟩
  | true =>
    obtain rfl := h rfl
    have hK : loseK loss (0 + 1) ⟨false, [], [], true, true, s2⟩ = [] := by
      unfold loseK
      rw [if_pos rfl]
      split
      · exact List.take_nil
      · rfl
    have e : (Dt ⟨false, F, F, false, false, s⟩ ⟨false, [], [], true, true, s2⟩ st sp ar dn).restart loss = { (Dt ⟨false, F, F, false, false, s⟩ ⟨false, [], [], true, true, s2⟩ st sp ar dn).set tP ⟨false, loseK loss (0 + 1) ⟨false, [], [], true, true, s2⟩, loseK loss (0 + 1) ⟨false, [], [], true, true, s2⟩, false, false, s2⟩ with down := false, armed := -1 } := by
      unfold Dk.restart Dk.lose
      rw [keys_t]
      rfl
    rw [e, hK]
    exact ⟨⟨false, [], [], false, false, IntKind.i64.wrap (sp + 1)⟩, st, IntKind.i64.wrap (sp + 1), rfl, rfl⟩
theorem opent_whole (l : List (List UInt8)) (h : ∀ u ∈ l, u.length < 9223372036854775808) (s : Int) (t : It) (st sp ar : Int) :
    walOpen (Dt ⟨false, frames l, frames l, false, false, s⟩ t st sp ar false) lP = (0, some ⟨lP, l, false⟩, Dt ⟨false, frames l, frames l, false, false, s⟩ t st sp ar false) := by
  have h1 : (Dt ⟨false, frames l, frames l, false, false, s⟩ t st sp ar false).kind lP = 2 := by kernel_rfl
  have h2 : (Dt ⟨false, frames l, frames l, false, false, s⟩ t st sp ar false).read lP = (frames l, 0) := by kernel_rfl
  unfold walOpen
  rw [h1, if_neg (by decide), h2]
  dsimp only
  rw [if_neg (by decide), scanE_whole l h]
  rfl
theorem rst_open {l : List (List UInt8)} {e : Int} {D : Dk} (h : Rst (frames l) e D) (hsm : ∀ u ∈ l, u.length < 9223372036854775808) (hb : (frames l).length ≤ 16000000) (loss : Int) :
    (D.Kp 1099511627776 ∧ D.items.length ≤ 1048576 ∧ ∀ x ∈ D.items, x.1.length ≤ 1099511627) ∧ (D.restart loss).Sm 1099511627776 ∧
      ((e = 14 ∧ walOpen (D.restart loss) lP = (0, some ⟨lP, l, false⟩, D.restart loss)) ∨ (e = 0 ∧ walOpen (D.restart loss) lP = (0, some ⟨lP, [], false⟩, D.restart loss))) := by
  have hk : ∀ (x : It) (st sp ar : Int) (dn : Bool), (Dl x st sp ar dn).items.length ≤ 1048576 ∧ ∀ y ∈ (Dl x st sp ar dn).items, y.1.length ≤ 1099511627 := fun x st sp ar dn => by
    refine ⟨by simp [Dl], fun y hy => ?_⟩
    simp only [Dl, List.mem_cons, List.not_mem_nil, or_false] at hy
    rcases hy with rfl | rfl
    · exact (by decide : vP.length ≤ 1099511627)
    · exact (by decide : lP.length ≤ 1099511627)
  rcases h with ⟨rfl, h | h⟩ | ⟨rfl, h⟩
  · obtain ⟨s, st, sp, ar, dn, rfl⟩ := h
    rw [restart_same]
    exact ⟨⟨Kp_l (by show (frames l).length ≤ _; omega) (by show (frames l).length ≤ _; omega) (fun h => by cases h), hk _ _ _ _ _⟩, Sm_x (by show (frames l).length ≤ _; omega), .inl ⟨rfl, open_whole l hsm _ _ _ _ _ _ _⟩⟩
  · obtain ⟨s, an, lo, s2, st, sp, ar, dn, rfl, hla⟩ := h
    obtain ⟨t, st', sp', hr, ht⟩ := restart_t (frames l) s an lo s2 st sp ar dn hla loss
    rw [hr]
    refine ⟨⟨fun y hy => ?_, by simp [Dt], fun y hy => ?_⟩, ⟨rfl, fun y hy => ?_⟩, .inl ⟨rfl, opent_whole l hsm _ _ _ _ _⟩⟩
    · simp only [Dt, List.mem_cons, List.not_mem_nil, or_false] at hy
      rcases hy with rfl | rfl | rfl
      · exact ⟨Nat.zero_le _, Nat.zero_le _, fun h => by cases h⟩
      · exact ⟨by show (frames l).length ≤ _; omega, by show (frames l).length ≤ _; omega, fun h => by cases h⟩
      · exact ⟨Nat.zero_le _, Nat.zero_le _, fun _ _ => Nat.le_refl _⟩
    · simp only [Dt, List.mem_cons, List.not_mem_nil, or_false] at hy
      rcases hy with rfl | rfl | rfl
      · exact (by decide : vP.length ≤ 1099511627)
      · exact (by decide : lP.length ≤ 1099511627)
      · exact (by decide : tP.length ≤ 1099511627)
    · simp only [Dt, List.mem_cons, List.not_mem_nil, or_false] at hy
      rcases hy with rfl | rfl | rfl
      · exact Nat.zero_le _
      · show (frames l).length ≤ _; omega
      · show t.data.length ≤ _; omega
  · obtain ⟨s, st, sp, ar, dn, rfl⟩ := h
    rw [restart_same]
    exact ⟨⟨Kp_l (Nat.zero_le _) (Nat.zero_le _) (fun h => by cases h), hk _ _ _ _ _⟩, Sm_x (Nat.zero_le _), .inr ⟨rfl, open_whole [] (by simp) _ _ _ _ _ _ _⟩⟩
set_option maxHeartbeats 16000000 in
set_option maxRecDepth 100000 in
theorem walResets_c (recs : List (List UInt8)) (A : Option Addr) (cap : Nat) (stop loss : Int) (w0 : World) (hA : SlAt cStr (Old w0) w0 A recs) (hcap : recs.length ≤ cap) (hl : (recs.map List.length).sum + recs.length ≤ 1048576) :
    Cal Tryd.prog 6 [.slice A recs.length cap, .int .i64 stop, .int .i64 loss] w0 (fun v w' => Upd [] w0 w' ∧ v = .bool true) := by
  refine Cal.mk' (by kernel_rfl) Tryd.func6 rfl rfl fun hS => ?_
  have hsm : ∀ s ∈ recs, s.length ≤ 1048576 := fun s hs => by have := mem_le_sum recs s hs; omega
  have hsm' : ∀ s ∈ recs, s.length < 9223372036854775808 := fun s hs => by have := hsm s hs; omega
  have hfl := frames_bound recs hl
  repeat' (first
    | (show WL _ _ _ _ _ _ _; first
      | refine WL.pure rfl rfl rfl rfl ?_
      | refine WL.nil ?_
      | (refine WL.callL (D := []) hS (by repeat (first | exact Pulls.nil | (apply Pulls.cons; focus (repeat (first | exact Pull.here | apply Pull.there))))) rfl rfl (fun hI => made_c _) rfl rfl rfl ?_; rintro v w ⟨q, mb, lb, rfl, hm⟩ hS; replace hS := hS _ hm; clear hm)
      | (refine WL.calls hS rfl rfl (wawake_c _) rfl rfl rfl ?_; rintro v w rfl hS)
      | (refine WL.callL (D := [dkC q mb lb Dv0]) hS (by repeat (first | exact Pulls.nil | (apply Pulls.cons; focus (repeat (first | exact Pull.here | apply Pull.there))))) rfl rfl (fun hI => open_c lP hI (by decide) Sm_v) rfl rfl rfl ?_; rintro v w hR hS; rw [open_new] at hR; obtain ⟨L, fp, rfl, hm⟩ := hR; replace hS := hS _ hm; clear hm))
    | (show WC _ _ _ _ _ _; first
      | (show WC _ _ (Code.seq (Code.block 0 (Code.loop _)) _) _ _ _; refine WC.cutS (σ := Nat × List Nat × Int × Int × Int) [0, 1, 2, 7, 8] (fun (k, fp, s, st, sp) => [(10, .int .i64 (k : Int))]) (fun (k, fp, s, st, sp) w => k ≤ recs.length ∧ St w0 [] w [lgC L q ⟨lP, recs.take k, false⟩ fp, dkC q mb lb (Dl ⟨false, frames (recs.take k), frames (recs.take k), false, false, s⟩ st sp (-1) false)] [⟨w0, Old w0⟩]) ?_ ?_)
      | refine WC.seq ?_
      | refine WC.region ?_
      | refine WC.block ?_
      | refine WC.skip ?_
      | refine WC.condF rfl (by with_reducible rfl) ?_
      | refine WC.condF rfl (by decide) ?_)
    | refine seqQ_n ?_)
  · have hS := hS.droplast2 (D := [lgC L q ⟨lP, [], false⟩ fp, dkC q mb lb (Dl ⟨false, [], [], false, false, 2⟩ 4 2 (-1) false)]) (by repeat (first | exact Pulls.nil | (apply Pulls.cons; focus (repeat (first | exact Pull.here | apply Pull.there)))))
    refine WC.loop (σ := Nat × List Nat × Int × Int × Int) [0, 1, 2, 7, 8] (fun (k, fp, s, st, sp) => [(10, .int .i64 (k : Int))])
      (fun (k, fp, s, st, sp) w => k ≤ recs.length ∧ St w0 [] w [lgC L q ⟨lP, recs.take k, false⟩ fp, dkC q mb lb (Dl ⟨false, frames (recs.take k), frames (recs.take k), false, false, s⟩ st sp (-1) false)] [⟨w0, Old w0⟩])
      (fun (k, _) => recs.length - k) (0, fp, 2, 4, 2) ⟨Nat.zero_le _, hS⟩ ⟨rfl, trivial⟩ ?_
    clear hS
    rintro ⟨k, fp, s, st, sp⟩ g w ⟨hk, hS⟩
    show WC _ _ _ (lf _ [(10, .int .i64 (k : Int))] _ _) _ _
    by_cases hlt : k < recs.length
    · by_cases h30 : k < 30
      · obtain ⟨b1, o1, e1, rfl, f1, r1, rfl⟩ := hA.at_ hlt
        change w0.rangeAt b1 (o1 + k * 1) [str recs[k]] at r1
        obtain ⟨s', st', sp', hadd⟩ := add_calm ⟨lP, recs.take k, false⟩ rfl (frames (recs.take k)) (frames (recs.take k)) recs[k] false false s st sp
        have hrl := hsm recs[k] (List.getElem_mem hlt)
        have hfk := hfl k
        have htk : recs.take (k + 1) = recs.take k ++ [recs[k]] := List.take_succ_eq_append_getElem hlt
        have htl : (recs.take k).length ≤ 4194304 := by rw [List.length_take]; omega
        generalize recs[k] = r at *
        repeat' (first
          | (show WL _ _ _ _ _ _ _; first
            | refine WL.pure rfl rfl rfl rfl ?_
            | refine WL.nil ?_
            | refine WL.add rfl rfl rfl (by omega) rfl rfl rfl ?_
            | (refine WL.load hS rfl rfl (LdOk.snap0 f1 r1 (by repeat (first | exact List.Mem.head _ | apply List.Mem.tail)) rfl) rfl rfl rfl ?_)
            | (refine WL.callL (D := [lgC L q ⟨lP, recs.take k, false⟩ fp, dkC q mb lb _]) hS (by repeat (first | exact Pulls.nil | (apply Pulls.cons; focus (repeat (first | exact Pull.here | apply Pull.there))))) rfl rfl (fun hI => add_c r hI hadd lP_len rfl (by omega) (by rw [Dk.step_at]; show (frames (recs.take k)).length ≤ _; omega) htl) rfl rfl rfl ?_; rintro v w ⟨rfl, fp', hm⟩ hS; replace hS := hS _ hm; clear hm)
            | refine WL.index rfl rfl rfl rfl (by first | with_reducible assumption | omega) rfl rfl rfl rfl ?_
            | ((fail_if_success (refine WL.wanted rfl ?_)); refine WL.guard rfl rfl rfl (fun h => ?_) (fun h => ?_) <;> (try simp only [Classical.not_not, Bool.not_eq_true', Bool.not_eq_false', Bool.not_eq_eq_eq_not, Bool.not_true, Bool.not_false, beq_iff_eq, beq_eq_false_iff_ne, ne_eq, decide_eq_decide, decide_eq_true_eq, decide_eq_false_iff_not, Bool.and_eq_true, Bool.or_eq_true, Bool.and_eq_false_iff, Bool.or_eq_false_iff] at h) <;> (try (exfalso; first | omega | contradiction))))
          | (show WC _ _ _ _ _ _; first
            | refine WC.seq ?_
            | refine WC.region ?_
            | refine WC.block ?_
            | refine WC.skip ?_
            | refine WC.condF rfl (by decide) ?_
            | refine WC.condT rfl (decide_eq_true (by first | with_reducible assumption | omega)) ?_)
          | refine seqQ_n ?_
          | refine blkQ_n ?_)
        exact rndQ_n (k + 1, fp', _, _, _) ⟨hlt, by rw [htk, frames_app, frames_one]; exact hS⟩ (by show recs.length - (k + 1) < recs.length - k; omega) ⟨vint (by omega), trivial⟩ ⟨rfl, rfl, rfl, rfl, rfl, trivial⟩
      · repeat' (first
          | (show WL _ _ _ _ _ _ _; first
            | refine WL.pure rfl rfl rfl rfl ?_
            | refine WL.nil ?_
            | ((fail_if_success (refine WL.wanted rfl ?_)); refine WL.guard rfl rfl rfl (fun h => ?_) (fun h => ?_) <;> (try simp only [Classical.not_not, Bool.not_eq_true', Bool.not_eq_false', Bool.not_eq_eq_eq_not, Bool.not_true, Bool.not_false, beq_iff_eq, beq_eq_false_iff_ne, ne_eq, decide_eq_decide, decide_eq_true_eq, decide_eq_false_iff_not, Bool.and_eq_true, Bool.or_eq_true, Bool.and_eq_false_iff, Bool.or_eq_false_iff] at h) <;> (try (exfalso; first | omega | contradiction))))
          | (show WC _ _ _ _ _ _; first
            | refine WC.seq ?_
            | refine WC.region ?_
            | refine WC.exit ?_
            | refine WC.condF rfl (decide_eq_false (by first | with_reducible assumption | omega)) ?_)
          | refine seqQ_n ?_
          | refine seqQ_x ?_
          | refine blkQ_hit rfl ?_
          | refine rndQ_x ?_)
        exact endQ_n (k, fp, s, st, sp) ⟨hk, hS⟩ ⟨rfl, trivial⟩ ⟨rfl, rfl, rfl, rfl, rfl, trivial⟩
    · repeat' (first
        | (show WL _ _ _ _ _ _ _; first
          | refine WL.pure rfl rfl rfl rfl ?_
          | refine WL.nil ?_
          | refine WL.skip rfl rfl rfl ?_
          | ((fail_if_success (refine WL.wanted rfl ?_)); refine WL.guard rfl rfl rfl (fun h => ?_) (fun h => ?_) <;> (try simp only [Classical.not_not, Bool.not_eq_true', Bool.not_eq_false', Bool.not_eq_eq_eq_not, Bool.not_true, Bool.not_false, beq_iff_eq, beq_eq_false_iff_ne, ne_eq, decide_eq_decide, decide_eq_true_eq, decide_eq_false_iff_not, Bool.and_eq_true, Bool.or_eq_true, Bool.and_eq_false_iff, Bool.or_eq_false_iff] at h) <;> (try (exfalso; first | omega | contradiction))))
        | (show WC _ _ _ _ _ _; first
          | refine WC.seq ?_
          | refine WC.region ?_
          | refine WC.exit ?_
          | refine WC.condF rfl (by with_reducible rfl) ?_)
        | refine seqQ_n ?_
        | refine seqQ_x ?_
        | refine blkQ_hit rfl ?_
        | refine rndQ_x ?_)
      exact endQ_n (k, fp, s, st, sp) ⟨hk, hS⟩ ⟨rfl, trivial⟩ ⟨rfl, rfl, rfl, rfl, rfl, trivial⟩
  · clear hS
    rintro ⟨k, fp, s, st, sp⟩ g w ⟨hk, hS⟩
    show WC _ _ _ (lf _ [(10, .int .i64 (k : Int))] _ _) _ _
    have hfk := hfl k
    have htl : (recs.take k).length = k := by rw [List.length_take]; omega
    have hrs := fill_gen (frames (recs.take k)) s st sp (max (-1) stop)
    rcases hf : (Dl ⟨false, frames (recs.take k), frames (recs.take k), false, false, s⟩ st sp (max (-1) stop) false).fill lP [] with ⟨e, D⟩
    rw [hf] at hrs
    dsimp only at hrs
    obtain ⟨⟨hkp, hkl, hkk⟩, hsm2, ho⟩ := rst_open hrs (fun u hu => hsm' u (List.mem_of_mem_take hu)) hfk loss
    clear hrs
    have hTm := SlAt.take hA k
    have hsl : (Dl ⟨false, frames (recs.take k), frames (recs.take k), false, false, s⟩ st sp (max (-1) stop) false).Sm 1099511627776 := Sm_l (by omega)
    generalize recs.take k = rm at *
    rcases ho with ⟨rfl, ho⟩ | ⟨rfl, ho⟩
    · repeat' (first
        | (show WL _ _ _ _ _ _ _; first
          | refine WL.pure rfl rfl rfl rfl ?_
          | refine WL.nil ?_
          | (refine WL.callL (D := [dkC q mb lb _]) hS (by repeat (first | exact Pulls.nil | (apply Pulls.cons; focus (repeat (first | exact Pull.here | apply Pull.there))))) rfl rfl (fun hI => arm_c stop hI.head hI.headB) rfl rfl rfl ?_; rintro v w ⟨rfl, hm⟩ hS; replace hS := hS _ (.of1 hm); clear hm)
          | (refine WL.callL (D := [lgC L q ⟨lP, rm, false⟩ fp, dkC q mb lb (Dl ⟨false, frames rm, frames rm, false, false, s⟩ st sp (max (-1) stop) false)]) hS (by repeat (first | exact Pulls.nil | (apply Pulls.cons; focus (repeat (first | exact Pull.here | apply Pull.there))))) rfl rfl (fun hI => reset_c hI hf lP_len hsl) rfl rfl rfl ?_; rintro v w ⟨rfl, fp', hm⟩ hS; replace hS := hS _ hm; clear hm)
          | (refine WL.callL (D := [dkC q mb lb D]) hS (by repeat (first | exact Pulls.nil | (apply Pulls.cons; focus (repeat (first | exact Pull.here | apply Pull.there))))) rfl rfl (fun hI => restart_c loss hI.head hI.headB hkp hkl hkk) rfl rfl rfl ?_; rintro v w ⟨rfl, hm⟩ hS; replace hS := hS _ (.of1 hm); clear hm)
          | (refine WL.callL (D := [dkC q mb lb (D.restart loss)]) hS (by repeat (first | exact Pulls.nil | (apply Pulls.cons; focus (repeat (first | exact Pull.here | apply Pull.there))))) rfl rfl (fun hI => open_c lP hI lP_len hsm2) rfl rfl rfl ?_; rintro v w hR hS; rw [ho] at hR; obtain ⟨L2, fp2, rfl, hm⟩ := hR; replace hS := hS _ hm; clear hm)
          | (refine WL.callL (D := [lgC L2 q ⟨lP, rm, false⟩ fp2]) hS (by repeat (first | exact Pulls.nil | (apply Pulls.cons; focus (repeat (first | exact Pull.here | apply Pull.there))))) rfl rfl (fun hI => damaged_c hI) rfl rfl rfl ?_; rintro v w ⟨rfl, hm⟩ hS; replace hS := hS _ hm; clear hm)
          | (refine WL.callL (D := [lgC L2 q ⟨lP, rm, false⟩ fp2]) hS (by repeat (first | exact Pulls.nil | (apply Pulls.cons; focus (repeat (first | exact Pull.here | apply Pull.there))))) rfl rfl (fun hI => records_c hI (by show rm.length ≤ _; omega)) rfl rfl rfl ?_; rintro v w ⟨A3, cap3, rfl, hm⟩ hS; rw [htl] at hm ⊢; replace hS := hS _ hm; clear hm)
          | (refine WL.sliceTo rfl rfl rfl rfl (by omega) rfl rfl rfl ?_; intro A5 hA5)
          | (refine WL.calls hS rfl rfl (same_n rm rm htl.symm htl.symm (hS.ownSl (l := rm) (enc := fun s => [str s]) (hsz := fun _ => rfl) (by decide) (by repeat (first | exact List.Mem.head _ | apply List.Mem.tail))) (hS.slO (z := ⟨w0, Old w0⟩) (by repeat (first | exact List.Mem.head _ | apply List.Mem.tail)) (SlAt.toA hTm hA5)) (by omega)) rfl rfl rfl ?_; rintro v w rfl hS)
          | refine WL.skip rfl rfl rfl ?_
          | ((fail_if_success (refine WL.wanted rfl ?_)); refine WL.guard rfl rfl rfl (fun h => ?_) (fun h => ?_) <;> (try simp only [Classical.not_not, Bool.not_eq_true', Bool.not_eq_false', Bool.not_eq_eq_eq_not, Bool.not_true, Bool.not_false, beq_iff_eq, beq_eq_false_iff_ne, ne_eq, decide_eq_decide, decide_eq_true_eq, decide_eq_false_iff_not, Bool.and_eq_true, Bool.or_eq_true, Bool.and_eq_false_iff, Bool.or_eq_false_iff] at h) <;> (try (exfalso; first | omega | contradiction))))
        | (show WC _ _ _ _ _ _; first
          | refine WC.seq ?_
          | refine WC.region ?_
          | refine WC.skip ?_
          | refine WC.ret ?_
          | refine WC.condF rfl (by with_reducible rfl) ?_
          | refine WC.condF rfl (by decide) ?_)
        | refine seqQ_n ?_)
      all_goals exact fin1r rfl rfl ⟨hS.upd, vbool (by simp)⟩
    · repeat' (first
        | (show WL _ _ _ _ _ _ _; first
          | refine WL.pure rfl rfl rfl rfl ?_
          | refine WL.nil ?_
          | (refine WL.callL (D := [dkC q mb lb _]) hS (by repeat (first | exact Pulls.nil | (apply Pulls.cons; focus (repeat (first | exact Pull.here | apply Pull.there))))) rfl rfl (fun hI => arm_c stop hI.head hI.headB) rfl rfl rfl ?_; rintro v w ⟨rfl, hm⟩ hS; replace hS := hS _ (.of1 hm); clear hm)
          | (refine WL.callL (D := [lgC L q ⟨lP, rm, false⟩ fp, dkC q mb lb (Dl ⟨false, frames rm, frames rm, false, false, s⟩ st sp (max (-1) stop) false)]) hS (by repeat (first | exact Pulls.nil | (apply Pulls.cons; focus (repeat (first | exact Pull.here | apply Pull.there))))) rfl rfl (fun hI => reset_c hI hf lP_len hsl) rfl rfl rfl ?_; rintro v w ⟨rfl, fp', hm⟩ hS; replace hS := hS _ hm; clear hm)
          | (refine WL.callL (D := [dkC q mb lb D]) hS (by repeat (first | exact Pulls.nil | (apply Pulls.cons; focus (repeat (first | exact Pull.here | apply Pull.there))))) rfl rfl (fun hI => restart_c loss hI.head hI.headB hkp hkl hkk) rfl rfl rfl ?_; rintro v w ⟨rfl, hm⟩ hS; replace hS := hS _ (.of1 hm); clear hm)
          | (refine WL.callL (D := [dkC q mb lb (D.restart loss)]) hS (by repeat (first | exact Pulls.nil | (apply Pulls.cons; focus (repeat (first | exact Pull.here | apply Pull.there))))) rfl rfl (fun hI => open_c lP hI lP_len hsm2) rfl rfl rfl ?_; rintro v w hR hS; rw [ho] at hR; obtain ⟨L2, fp2, rfl, hm⟩ := hR; replace hS := hS _ hm; clear hm)
          | (refine WL.callL (D := [lgC L2 q ⟨lP, [], false⟩ fp2]) hS (by repeat (first | exact Pulls.nil | (apply Pulls.cons; focus (repeat (first | exact Pull.here | apply Pull.there))))) rfl rfl (fun hI => damaged_c hI) rfl rfl rfl ?_; rintro v w ⟨rfl, hm⟩ hS; replace hS := hS _ hm; clear hm)
          | (refine WL.callL (D := [lgC L2 q ⟨lP, [], false⟩ fp2]) hS (by repeat (first | exact Pulls.nil | (apply Pulls.cons; focus (repeat (first | exact Pull.here | apply Pull.there))))) rfl rfl (fun hI => records_c hI (by decide)) rfl rfl rfl ?_; rintro v w ⟨A3, cap3, rfl, hm⟩ hS; replace hS := hS _ hm; clear hm)
          | refine WL.skip rfl rfl rfl ?_)
        | (show WC _ _ _ _ _ _; first
          | refine WC.seq ?_
          | refine WC.region ?_
          | refine WC.skip ?_
          | refine WC.ret ?_
          | refine WC.condF rfl (by with_reducible rfl) ?_
          | refine WC.condF rfl (by decide) ?_)
        | refine seqQ_n ?_)
      all_goals exact fin1r rfl rfl ⟨hS.upd, vbool (by simp)⟩
theorem walResets.key_walResets (W : World) (v0 v1 v2 : Value) (y0 : List (List UInt8)) (y1 y2 : Int) (b0 b1 b2 : Nat) (h0 : ASl cStr W v0 y0) (h1 : AInt W v1 y1) (h2 : AInt W v2 y2) (q0 : QL QStr y0 b0) (q1 : QInt y1 b1) (q2 : QInt y2 b2) (hb : b0 + b1 + b2 ≤ 1048576) :
    Cal Tryd.prog 6 [v0, v1, v2] W (fun v W' => Upd [] W W' ∧ v = .bool true) := by
  obtain ⟨A, cap, rfl, hcap, hsl⟩ := h0
  obtain rfl := h1
  obtain rfl := h2
  exact walResets_c y0 A cap y1 y2 W hsl hcap (by have := ql_strs q0; omega)
end Go.Proofs.YtggalmiaofeikaaDoor
