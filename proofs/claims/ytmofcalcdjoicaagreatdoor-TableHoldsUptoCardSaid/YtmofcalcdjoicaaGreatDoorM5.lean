/- What is proved: contracts and plain facts that the law leans on (texts put together). Conditions: as each names them. -/
import Derived.Test.YtmofcalcdjoicaaGreatDoorM4
import Derived.Shelf.SlIter.Nil
import Derived.Shelf.SortM.Plain
import Derived.Shelf.SortM.SortNone
import Derived.Test.YtmofcalcdjoicaaGreatDoorProg
import Derived.Test.YtmofcalcdjoicaaGreatDoorRows
import Derived.ProofKit
import Derived.ChangeSame
import Derived.OpenShut
import Derived.Deep.Slices
import Derived.JoinedCond
/-
  DERIVED: THE SHELF's CONTRACTS AT THIS DUMP, IN PLAIN WORDS (tools/lay-plain.mjs out of 'TryzShelf.lean', which tools/lay-shelf.mjs wrote): THE SAME DECLARATIONS UNDER THE SAME NAMES: 'import', 'namespace', 'open', 'def', 'theorem' AND NOTHING ELSE: no command of the shelf's: FOR A HAND-IN. Each laying: the table of numbers ('.._ren') and one theorem, a field a fact of the dump's own or the kernel's comparison; each contract: ONE APPLICATION.
-/
namespace Go.Proofs
open Go.Shelf
def Tryz.keysL_ren : Go.Shelf.Ren := ⟨fun | 7 => 74 | 10 => 115 | n => n, fun | 23 => 98 | 26 => 9 | 3 => 126 | 28 => 122 | 0 => 0 | 27 => 121 | 33 => 55 | 4 => 4 | n => n, fun | n => n⟩
theorem Tryz.keysL : Go.Proofs.SlLaysZ.n7 Tryz.prog Tryz.keysL_ren := {
  mixed := by kernel_rfl
  f7 := ⟨Tryz.f74.name, by decide, Tryz.func74.trans (congrArg some (by kernel_rfl))⟩
  f10 := ⟨Tryz.f115.name, by decide, Tryz.func115.trans (congrArg some (by kernel_rfl))⟩
  t0 := Tryz.underlying0
  a0 := Tryz.isAgg0
  z0 := Tryz.sizeOf0
  v0 := Tryz.zeroValue0
  t4 := Tryz.underlying4
  a4 := Tryz.isAgg4
  z4 := Tryz.sizeOf4
  v4 := Tryz.zeroValue4
  t23 := Tryz.underlying98
  a23 := Tryz.isAgg98
  z23 := Tryz.sizeOf98
  v23 := Tryz.zeroValue98
  t26 := Tryz.underlying9
  a26 := Tryz.isAgg9
  z26 := Tryz.sizeOf9
  v26 := Tryz.zeroValue9
  t27 := Tryz.underlying121
  a27 := Tryz.isAgg121
  z27 := Tryz.sizeOf121
  v27 := Tryz.zeroValue121
  t28 := Tryz.underlying122
  a28 := Tryz.isAgg122
  z28 := Tryz.sizeOf122
  v28 := Tryz.zeroValue122
  t33 := Tryz.underlying55
  a33 := Tryz.isAgg55
  z33 := Tryz.sizeOf55
  v33 := Tryz.zeroValue55 }
def Tryz.sortedL_ren : Go.Shelf.Ren := ⟨fun | 6 => 62 | 8 => 107 | 9 => 73 | 11 => 135 | 13 => 114 | 12 => 113 | 23 => 147 | 24 => 148 | 14 => 138 | 15 => 139 | 16 => 140 | 17 => 141 | 18 => 142 | 19 => 143 | 20 => 144 | 21 => 145 | 22 => 146 | 25 => 161 | 26 => 162 | 27 => 163 | 28 => 164 | 29 => 165 | 30 => 166 | 31 => 176 | n => n, fun | 26 => 9 | 28 => 122 | 24 => 47 | 0 => 0 | 3 => 3 | 37 => 163 | 48 => 175 | 50 => 133 | 4 => 4 | 40 => 194 | 39 => 193 | 45 => 189 | 5 => 5 | 9 => 9 | 51 => 203 | 55 => 207 | 57 => 212 | 58 => 213 | 33 => 55 | n => n, fun | n => n⟩
theorem Tryz.sortedL : Go.Proofs.SlLaysZ.n6 Tryz.prog Tryz.sortedL_ren := {
  mixed := by kernel_rfl
  f6 := ⟨Tryz.f62.name, by decide, Tryz.func62.trans (congrArg some (by kernel_rfl))⟩
  f8 := ⟨Tryz.f107.name, by decide, Tryz.func107.trans (congrArg some (by kernel_rfl))⟩
  f11 := ⟨Tryz.f135.name, by decide, Tryz.func135.trans (congrArg some (by kernel_rfl))⟩
  t0 := Tryz.underlying0
  a0 := Tryz.isAgg0
  z0 := Tryz.sizeOf0
  v0 := Tryz.zeroValue0
  t24 := Tryz.underlying47
  a24 := Tryz.isAgg47
  z24 := Tryz.sizeOf47
  v24 := Tryz.zeroValue47
  t26 := Tryz.underlying9
  a26 := Tryz.isAgg9
  z26 := Tryz.sizeOf9
  v26 := Tryz.zeroValue9
  t28 := Tryz.underlying122
  a28 := Tryz.isAgg122
  z28 := Tryz.sizeOf122
  v28 := Tryz.zeroValue122
  i26 := by kernel_rfl }
def Tryz.sortL_ren : Go.Shelf.Ren := ⟨fun | 6 => 73 | 8 => 114 | 9 => 113 | 19 => 147 | 20 => 148 | 21 => 138 | 22 => 139 | 23 => 140 | 24 => 141 | 25 => 142 | 26 => 143 | 27 => 144 | 28 => 145 | 29 => 146 | 36 => 161 | 31 => 162 | 32 => 163 | 37 => 164 | 38 => 165 | 39 => 166 | 41 => 176 | n => n, fun | 27 => 47 | 29 => 9 | 3 => 3 | 32 => 163 | 26 => 47 | 0 => 0 | 44 => 175 | 46 => 133 | 4 => 4 | 36 => 194 | 35 => 193 | 41 => 189 | 5 => 5 | 9 => 9 | 53 => 203 | 57 => 207 | 63 => 212 | 64 => 213 | n => n, fun | n => n⟩
theorem Tryz.sortL : Go.Proofs.SlLaysM.n6 Tryz.prog Tryz.sortL_ren := {
  mixed := by kernel_rfl
  f6 := ⟨Tryz.f73.name, by decide, Tryz.func73.trans (congrArg some (by kernel_rfl))⟩
  f8 := Tryz.func114.trans (congrArg some (by kernel_rfl))
  f9 := ⟨Tryz.f113.name, by decide, Tryz.func113.trans (congrArg some (by kernel_rfl))⟩
  f19 := Tryz.func147.trans (congrArg some (by kernel_rfl))
  f20 := Tryz.func148.trans (congrArg some (by kernel_rfl))
  f21 := ⟨Tryz.f138.name, by decide, Tryz.func138.trans (congrArg some (by kernel_rfl))⟩
  f22 := ⟨Tryz.f139.name, by decide, Tryz.func139.trans (congrArg some (by kernel_rfl))⟩
  f23 := ⟨Tryz.f140.name, by decide, Tryz.func140.trans (congrArg some (by kernel_rfl))⟩
  f24 := ⟨Tryz.f141.name, by decide, Tryz.func141.trans (congrArg some (by kernel_rfl))⟩
  f25 := ⟨Tryz.f142.name, by decide, Tryz.func142.trans (congrArg some (by kernel_rfl))⟩
  f26 := ⟨Tryz.f143.name, by decide, Tryz.func143.trans (congrArg some (by kernel_rfl))⟩
  f27 := ⟨Tryz.f144.name, by decide, Tryz.func144.trans (congrArg some (by kernel_rfl))⟩
  f28 := ⟨Tryz.f145.name, by decide, Tryz.func145.trans (congrArg some (by kernel_rfl))⟩
  f29 := ⟨Tryz.f146.name, by decide, Tryz.func146.trans (congrArg some (by kernel_rfl))⟩
  f31 := Tryz.func162.trans (congrArg some (by kernel_rfl))
  f32 := Tryz.func163.trans (congrArg some (by kernel_rfl))
  f36 := ⟨Tryz.f161.name, by decide, Tryz.func161.trans (congrArg some (by kernel_rfl))⟩
  f37 := ⟨Tryz.f164.name, by decide, Tryz.func164.trans (congrArg some (by kernel_rfl))⟩
  f38 := ⟨Tryz.f165.name, by decide, Tryz.func165.trans (congrArg some (by kernel_rfl))⟩
  f39 := ⟨Tryz.f166.name, by decide, Tryz.func166.trans (congrArg some (by kernel_rfl))⟩
  f41 := ⟨Tryz.f176.name, by decide, Tryz.func176.trans (congrArg some (by kernel_rfl))⟩
  t0 := Tryz.underlying0
  a0 := Tryz.isAgg0
  z0 := Tryz.sizeOf0
  v0 := Tryz.zeroValue0
  t3 := Tryz.underlying3
  a3 := Tryz.isAgg3
  z3 := Tryz.sizeOf3
  v3 := Tryz.zeroValue3
  t4 := Tryz.underlying4
  a4 := Tryz.isAgg4
  z4 := Tryz.sizeOf4
  v4 := Tryz.zeroValue4
  t5 := Tryz.underlying5
  a5 := Tryz.isAgg5
  z5 := Tryz.sizeOf5
  v5 := Tryz.zeroValue5
  t9 := Tryz.underlying9
  a9 := Tryz.isAgg9
  z9 := Tryz.sizeOf9
  v9 := Tryz.zeroValue9
  t26 := Tryz.underlying47
  a26 := Tryz.isAgg47
  z26 := Tryz.sizeOf47
  v26 := Tryz.zeroValue47
  t27 := Tryz.underlying47
  a27 := Tryz.isAgg47
  z27 := Tryz.sizeOf47
  v27 := Tryz.zeroValue47
  t29 := Tryz.underlying9
  a29 := Tryz.isAgg9
  z29 := Tryz.sizeOf9
  v29 := Tryz.zeroValue9
  t32 := Tryz.underlying163
  a32 := Tryz.isAgg163
  z32 := Tryz.sizeOf163
  v32 := Tryz.zeroValue163
  t35 := Tryz.underlying193
  a35 := Tryz.isAgg193
  z35 := Tryz.sizeOf193
  v35 := Tryz.zeroValue193
  t36 := Tryz.underlying194
  a36 := Tryz.isAgg194
  z36 := Tryz.sizeOf194
  v36 := Tryz.zeroValue194
  t41 := Tryz.underlying189
  a41 := Tryz.isAgg189
  z41 := Tryz.sizeOf189
  v41 := Tryz.zeroValue189
  t44 := Tryz.underlying175
  a44 := Tryz.isAgg175
  z44 := Tryz.sizeOf175
  v44 := Tryz.zeroValue175
  t46 := Tryz.underlying133
  a46 := Tryz.isAgg133
  z46 := Tryz.sizeOf133
  v46 := Tryz.zeroValue133
  t53 := Tryz.underlying203
  a53 := Tryz.isAgg203
  z53 := Tryz.sizeOf203
  v53 := Tryz.zeroValue203
  t57 := Tryz.underlying207
  a57 := Tryz.isAgg207
  z57 := Tryz.sizeOf207
  v57 := Tryz.zeroValue207
  t63 := Tryz.underlying212
  a63 := Tryz.isAgg212
  z63 := Tryz.sizeOf212
  v63 := Tryz.zeroValue212
  t64 := Tryz.underlying213
  a64 := Tryz.isAgg213
  z64 := Tryz.sizeOf213
  v64 := Tryz.zeroValue213 }
def Tryz.keysVL_ren : Go.Shelf.Ren := ⟨fun | 7 => 63 | 10 => 108 | n => n, fun | 23 => 104 | 26 => 9 | 3 => 116 | 28 => 122 | 0 => 0 | 27 => 121 | 33 => 55 | 4 => 4 | n => n, fun | n => n⟩
theorem Tryz.keysVL : Go.Proofs.SlLaysZ.n7 Tryz.prog Tryz.keysVL_ren := {
  mixed := by kernel_rfl
  f7 := ⟨Tryz.f63.name, by decide, Tryz.func63.trans (congrArg some (by kernel_rfl))⟩
  f10 := ⟨Tryz.f108.name, by decide, Tryz.func108.trans (congrArg some (by kernel_rfl))⟩
  t0 := Tryz.underlying0
  a0 := Tryz.isAgg0
  z0 := Tryz.sizeOf0
  v0 := Tryz.zeroValue0
  t4 := Tryz.underlying4
  a4 := Tryz.isAgg4
  z4 := Tryz.sizeOf4
  v4 := Tryz.zeroValue4
  t23 := Tryz.underlying104
  a23 := Tryz.isAgg104
  z23 := Tryz.sizeOf104
  v23 := Tryz.zeroValue104
  t26 := Tryz.underlying9
  a26 := Tryz.isAgg9
  z26 := Tryz.sizeOf9
  v26 := Tryz.zeroValue9
  t27 := Tryz.underlying121
  a27 := Tryz.isAgg121
  z27 := Tryz.sizeOf121
  v27 := Tryz.zeroValue121
  t28 := Tryz.underlying122
  a28 := Tryz.isAgg122
  z28 := Tryz.sizeOf122
  v28 := Tryz.zeroValue122
  t33 := Tryz.underlying55
  a33 := Tryz.isAgg55
  z33 := Tryz.sizeOf55
  v33 := Tryz.zeroValue55 }
end Go.Proofs

/- What is proved: 'slices.Sorted(maps.Keys(m))' gives the keys, rising. Conditions: the map is not nil, its keys and their number are bounded. -/
set_option linter.unusedSimpArgs false
set_option linter.unusedVariables false
namespace Go.Proofs.YtmofcalcdjoicaaGreatDoor
open Go Go.J Go.RowKit Go.Maps Go.Sort Go.Shelf

def anyR : Value → Option (DataW Unit × List MemPlace) := fun _ => some (.nil, [])
theorem own_of_map {P : Program} {k : TypeId} {b : Nat} {m : KV} {w : World} (hk : P.underlying k = some .string) (h : MapIs b m w) (hl : m.length ≤ maxLen) (hkl : ∀ p ∈ m, p.1.length ≤ maxLen) :
    ∃ D0 : DataW Unit, w.ownsMap P k anyR b m.length D0 ∧ (strKeys D0).Perm (m.map Prod.fst) ∧ Maps.size D0 = m.length := by
  obtain ⟨hnd, es, clock, hb, hkv, hbn, hbc⟩ := h
  have hlen : es.length = m.length := by have := congrArg List.length hkv; simpa [kvs, kvm] using this
  have hkeys : es.map (·.key) = m.map fun p => str p.1 := by
    have := congrArg (List.map Prod.fst) hkv
    simpa [kvs, kvm, List.map_map, Function.comp_def] using this
  have hrd : ∀ x ∈ es, ∃ s, x.key = str s ∧ WideElems.rd P k anyR x = some (.string s, .nil) := fun x hx => by
    have hm : x.key ∈ es.map (·.key) := List.mem_map_of_mem hx
    rw [hkeys] at hm
    obtain ⟨p, hp, he⟩ := List.mem_map.1 hm
    refine ⟨p.1, he.symm, ?_⟩
    unfold WideElems.rd
    rw [← he, WideMaps.keyOf_string_mk hk (show (⟨⟨p.1⟩⟩ : ByteArray).size ≤ maxLen from by rw [size_mk]; exact hkl p hp)]
    rfl
  refine ⟨.map ((es.map (WideElems.rg P k anyR)).foldr DataW.insert []), ⟨⟨es⟩, clock, hb, ⟨by simpa [hlen] using hl, ⟨by simpa using hbc, by simpa using hbn, ?_⟩, fun x hx => ?_⟩, by simp [hlen], rfl⟩, ?_, ?_⟩
  · simp only
    rw [hkeys]
    have : (m.map fun p => str p.1) = (m.map Prod.fst).map str := by simp [List.map_map, Function.comp_def]
    rw [this]
    refine List.Pairwise.map (S := fun a b => a ≠ b) str (fun a b h e => h ?_) hnd
    simpa [str] using e
  · obtain ⟨s, _, h2⟩ := hrd x (by simpa using hx)
    exact ⟨_, h2⟩
  · have hp : ((es.map (WideElems.rg P k anyR)).foldr DataW.insert []).Perm (es.map (WideElems.rg P k anyR)) := Go.WideShapes.sorted_perm _
    refine (hp.map fun p => strOf p.1).trans ?_
    rw [List.map_map]
    have e : es.map ((fun p => strOf p.1) ∘ WideElems.rg P k anyR) = m.map Prod.fst := by
      have h1 : (es.map fun x => x.key) = ((m.map Prod.fst).map str) := by rw [hkeys]; simp [List.map_map, Function.comp_def]
      have h2 : ∀ x ∈ es, str (((fun p => strOf p.1) ∘ WideElems.rg P k anyR) x) = x.key := fun x hx => by
        obtain ⟨s, h1, h2⟩ := hrd x hx
        simp only [Function.comp_def, WideElems.rg, h2, Option.getD_some, strOf, h1]
      have h3 : (es.map ((fun p => strOf p.1) ∘ WideElems.rg P k anyR)).map str = (m.map Prod.fst).map str := by
        rw [← h1, List.map_map]
        exact List.map_congr_left h2
      exact (List.map_inj_right (f := str) (fun a b h => by simpa [str] using h)).1 h3
    rw [e]
  · have hp : ((es.map (WideElems.rg P k anyR)).foldr DataW.insert []).Perm (es.map (WideElems.rg P k anyR)) := Go.WideShapes.sorted_perm _
    have := hp.length_eq
    rw [List.length_map] at this
    rw [← hlen, ← this]
    rfl

theorem sortsL (m : Nat) : AnyZ.SortsIn Tryz.prog Tryz.sortedL_ren Fence.wide m :=
  ⟨fun blk off cap ss W hH hblk hsz => callsIn_wide.2 (AnyM.slices_Sort_string Tryz.sortL blk off cap ss W hH hblk hsz),
   fun p cap W => callsIn_wide.2 (AnyM.slices_Sort_string_none Tryz.sortL p cap W)⟩
def keysT : TypeId := Tryz.keysL_ren.t 23
theorem mapsKeys_c (mb : Nat) (w : World) : Cal Tryz.prog 74 [.map (some mb)] w fun v w' => v = .func (.func 115) ⟨[]⟩ ⟨[.pointer (some ⟨w.heap.size, 0, none⟩)]⟩ ∧ w' = w.alloc (.cells ⟨[.map (some mb)]⟩ keysT) :=
  ⟨by kernel_rfl, (callsIn_wide.1 (AnyZ.keys_in Tryz.keysL Fence.wide 5 trivial rfl (some mb) w)).mono fun e w' ⟨h1, h2⟩ => ⟨_, h1, rfl, h2⟩⟩
theorem mapsKeys_n (mb : Nat) (w : World) : Cal Tryz.prog 74 [.map (some mb)] w fun v w' => ∃ x, v = .func (.func 115) ⟨[]⟩ ⟨[.pointer (some ⟨x, 0, none⟩)]⟩ ∧ Upd [] w w' ∧ New w w' (.box x keysT [.map (some mb)]) :=
  (mapsKeys_c mb w).mono fun v w' ⟨h1, h2⟩ => by
    subst h2
    have hh := heap_alloc_new w (.cells ⟨[.map (some mb)]⟩ keysT)
    exact ⟨_, h1, .alloc _ _ _, ⟨hh, fun b hb => by simp [Chunk.fp] at hb; subst hb; simp⟩⟩
theorem sorted_c {x mb : Nat} {m : KV} {w : World} (hx : w.heap[x]? = some (.cells ⟨[.map (some mb)]⟩ keysT (0, 0))) (hm : MapIs mb m w) (hl : m.length ≤ 1048576) (hkl : ∀ p ∈ m, p.1.length ≤ 1099511627776) :
    Cal Tryz.prog 62 [.func (.func 115) ⟨[]⟩ ⟨[.pointer (some ⟨x, 0, none⟩)]⟩] w fun v w' => Upd [] w w' ∧ ∃ A cap, v = .slice A m.length cap ∧
      New w w' (.own (.slice A m.length cap) 9 1 m.length (strs ((m.map Prod.fst).mergeSort (fun x y => decide (x ≤ y))))) := by
  have hmx : m.length ≤ maxLen := by unfold maxLen; omega
  obtain ⟨D0, hown, hperm, hsz⟩ := own_of_map Tryz.underlying9 hm hmx (fun p hp => by have := hkl p hp; unfold maxLen; omega)
  have hxl : x < w.heap.size := (Array.getElem?_eq_some_iff.1 hx).1
  have hseq : SeqGives Fence.wide 2 Tryz.prog 115 #[.pointer (some ⟨x, 0, none⟩)] encStr (fun ss => ss.Perm (strKeys D0)) (Maps.size D0) w :=
    AnyZ.keys_gives (ρ := Tryz.keysL_ren) { Tryz.keysL with } Fence.wide _ trivial rfl (by omega) x mb m.length D0 _ hxl (by rw [cell_of_row w x 0 _ _ _ hx]; rfl) hown
  have cS := AnyZ.sorted_in Tryz.sortedL Fence.wide 5 trivial trivial trivial trivial rfl (by omega) (sortsL _) (enters_of Tryz.func73 (by kernel_rfl) rfl) 115 #[.pointer (some ⟨x, 0, none⟩)] trivial (enters_of Tryz.func115 (by kernel_rfl) rfl) _ _ (by rw [hsz]; exact hmx) (by rw [hsz]; omega) _ hseq
  change CallsIn _ _ Tryz.prog 62 _ _ _ at cS
  refine ⟨by kernel_rfl, (callsIn_wide.1 cS).mono fun e w' ⟨v, ss, he, hS, hrow, hnil, hb⟩ => ⟨v, he, .of_below hb, ?_⟩⟩
  have hp : ss.Perm (m.map Prod.fst) := hS.trans hperm
  have hlen : ss.length = m.length := by rw [hp.length_eq, List.length_map]
  have hms : ss.mergeSort (fun x y => decide (x ≤ y)) = (m.map Prod.fst).mergeSort (fun x y => decide (x ≤ y)) := mergeSort_of_perm hp
  rw [hms, hlen] at hrow
  have hst : ((m.map Prod.fst).mergeSort (fun x y => decide (x ≤ y))).map encStr = strs ((m.map Prod.fst).mergeSort (fun x y => decide (x ≤ y))) := by
    generalize (m.map Prod.fst).mergeSort (fun x y => decide (x ≤ y)) = l
    induction l with
    | nil => rfl
    | cons a l ih => simp only [List.map_cons, ih]; rfl
  rw [hst] at hrow
  have hrow' := hrow
  rcases hrow.2 with ⟨rfl, hz⟩ | ⟨g, cap, cur, rfl, hg, hh, _⟩
  · refine ⟨none, 0, by rw [hz], ⟨?_, fun b hb => by simp [Chunk.fp, Value.ownBlock] at hb⟩⟩
    have := RowAt.of_owns hrow
    rwa [hz] at this ⊢
  · exact ⟨_, _, rfl, ⟨RowAt.of_owns hrow', fun b hb => by
      simp [Chunk.fp, Value.ownBlock] at hb
      subst hb
      exact ⟨hg, (Array.getElem?_eq_some_iff.1 hh).1⟩⟩⟩
end Go.Proofs.YtmofcalcdjoicaaGreatDoor

/- What is proved: 'slices.Sorted(maps.Keys(m))' gives the keys, rising. Conditions: the map is not nil, its keys and their number are bounded. -/
set_option linter.unusedSimpArgs false
set_option linter.unusedVariables false
namespace Go.Proofs.YtmofcalcdjoicaaGreatDoor
open Go Go.J Go.RowKit Go.Maps Go.Sort Go.Shelf

def keysVT : TypeId := Tryz.keysVL_ren.t 23
theorem mapsKeysV_c (mb : Nat) (w : World) : Cal Tryz.prog 63 [.map (some mb)] w fun v w' => v = .func (.func 108) ⟨[]⟩ ⟨[.pointer (some ⟨w.heap.size, 0, none⟩)]⟩ ∧ w' = w.alloc (.cells ⟨[.map (some mb)]⟩ keysVT) :=
  ⟨by kernel_rfl, (callsIn_wide.1 (AnyZ.keys_in Tryz.keysVL Fence.wide 5 trivial rfl (some mb) w)).mono fun e w' ⟨h1, h2⟩ => ⟨_, h1, rfl, h2⟩⟩
theorem mapsKeysV_n (mb : Nat) (w : World) : Cal Tryz.prog 63 [.map (some mb)] w fun v w' => ∃ x, v = .func (.func 108) ⟨[]⟩ ⟨[.pointer (some ⟨x, 0, none⟩)]⟩ ∧ Upd [] w w' ∧ New w w' (.box x keysVT [.map (some mb)]) :=
  (mapsKeysV_c mb w).mono fun v w' ⟨h1, h2⟩ => by
    subst h2
    have hh := heap_alloc_new w (.cells ⟨[.map (some mb)]⟩ keysVT)
    exact ⟨_, h1, .alloc _ _ _, ⟨hh, fun b hb => by simp [Chunk.fp] at hb; subst hb; simp⟩⟩
theorem sortedV_c {x mb : Nat} {m : KV} {w : World} (hx : w.heap[x]? = some (.cells ⟨[.map (some mb)]⟩ keysVT (0, 0))) (hm : MapIs mb m w) (hl : m.length ≤ 1048576) (hkl : ∀ p ∈ m, p.1.length ≤ 1099511627776) :
    Cal Tryz.prog 62 [.func (.func 108) ⟨[]⟩ ⟨[.pointer (some ⟨x, 0, none⟩)]⟩] w fun v w' => Upd [] w w' ∧ ∃ A cap, v = .slice A m.length cap ∧
      New w w' (.own (.slice A m.length cap) 9 1 m.length (strs ((m.map Prod.fst).mergeSort (fun x y => decide (x ≤ y))))) := by
  have hmx : m.length ≤ maxLen := by unfold maxLen; omega
  obtain ⟨D0, hown, hperm, hsz⟩ := own_of_map Tryz.underlying9 hm hmx (fun p hp => by have := hkl p hp; unfold maxLen; omega)
  have hxl : x < w.heap.size := (Array.getElem?_eq_some_iff.1 hx).1
  have hseq : SeqGives Fence.wide 2 Tryz.prog 108 #[.pointer (some ⟨x, 0, none⟩)] encStr (fun ss => ss.Perm (strKeys D0)) (Maps.size D0) w :=
    AnyZ.keys_gives (ρ := Tryz.keysVL_ren) { Tryz.keysVL with } Fence.wide _ trivial rfl (by omega) x mb m.length D0 _ hxl (by rw [cell_of_row w x 0 _ _ _ hx]; rfl) hown
  have cS := AnyZ.sorted_in Tryz.sortedL Fence.wide 5 trivial trivial trivial trivial rfl (by omega) (sortsL _) (enters_of Tryz.func73 (by kernel_rfl) rfl) 108 #[.pointer (some ⟨x, 0, none⟩)] trivial (enters_of Tryz.func108 (by kernel_rfl) rfl) _ _ (by rw [hsz]; exact hmx) (by rw [hsz]; omega) _ hseq
  change CallsIn _ _ Tryz.prog 62 _ _ _ at cS
  refine ⟨by kernel_rfl, (callsIn_wide.1 cS).mono fun e w' ⟨v, ss, he, hS, hrow, hnil, hb⟩ => ⟨v, he, .of_below hb, ?_⟩⟩
  have hp : ss.Perm (m.map Prod.fst) := hS.trans hperm
  have hlen : ss.length = m.length := by rw [hp.length_eq, List.length_map]
  have hms : ss.mergeSort (fun x y => decide (x ≤ y)) = (m.map Prod.fst).mergeSort (fun x y => decide (x ≤ y)) := mergeSort_of_perm hp
  rw [hms, hlen] at hrow
  have hst : ((m.map Prod.fst).mergeSort (fun x y => decide (x ≤ y))).map encStr = strs ((m.map Prod.fst).mergeSort (fun x y => decide (x ≤ y))) := by
    generalize (m.map Prod.fst).mergeSort (fun x y => decide (x ≤ y)) = l
    induction l with
    | nil => rfl
    | cons a l ih => simp only [List.map_cons, ih]; rfl
  rw [hst] at hrow
  have hrow' := hrow
  rcases hrow.2 with ⟨rfl, hz⟩ | ⟨g, cap, cur, rfl, hg, hh, _⟩
  · refine ⟨none, 0, by rw [hz], ⟨?_, fun b hb => by simp [Chunk.fp, Value.ownBlock] at hb⟩⟩
    have := RowAt.of_owns hrow
    rwa [hz] at this ⊢
  · exact ⟨_, _, rfl, ⟨RowAt.of_owns hrow', fun b hb => by
      simp [Chunk.fp, Value.ownBlock] at hb
      subst hb
      exact ⟨hg, (Array.getElem?_eq_some_iff.1 hh).1⟩⟩⟩
end Go.Proofs.YtmofcalcdjoicaaGreatDoor

/- What is proved: what packing a table does. Conditions: no limit at the disk, texts of bounded length. -/
set_option linter.unusedSimpArgs false
set_option linter.unusedVariables false
namespace Go.Proofs.YtmofcalcdjoicaaGreatDoor
open Go Go.J Go.RowKit

/-- a map's keys, rising -/
def keysE {β : Type} (m : List (List UInt8 × β)) : List (List UInt8) := (m.map Prod.fst).mergeSort (fun x y => decide (x ≤ y))
theorem keysE_len {β : Type} (m : List (List UInt8 × β)) : (keysE m).length = m.length := by unfold keysE; rw [List.length_mergeSort, List.length_map]
def rowOp (rows : Rws) (k : List UInt8) : Chg := ⟨k, (mget rows k).getD [], false⟩
/-- the changes that make the rows -/
def packL (rows : Rws) : List Chg := (keysE rows).map (rowOp rows)
def tabPack (T : Tb) (D : Dk) : Int × Tb × Dk :=
  if (D.fill (baseP T.dir) (packE (recordE (packL T.rows)))).1 ≠ 0 then ((D.fill (baseP T.dir) (packE (recordE (packL T.rows)))).1, T, (D.fill (baseP T.dir) (packE (recordE (packL T.rows)))).2)
  else (((D.fill (baseP T.dir) (packE (recordE (packL T.rows)))).2.fill T.log.p []).1, { T with log := T.log.reset ((D.fill (baseP T.dir) (packE (recordE (packL T.rows)))).2.fill T.log.p []).1 }, ((D.fill (baseP T.dir) (packE (recordE (packL T.rows)))).2.fill T.log.p []).2)
set_option maxHeartbeats 4000000 in
set_option maxRecDepth 100000 in
theorem tpackNil_c (w0 : World) : Cal Tryz.prog 25 [.pointer none] w0 (fun v w' => Upd [] w0 w' ∧ v = .int .i64 1) := by
  refine Cal.mk' (by kernel_rfl) Tryz.func25 rfl rfl fun hS => ?_
  repeat' (first
    | (show WL _ _ _ _ _ _ _; first
      | refine WL.pure rfl rfl rfl rfl ?_
      | refine WL.nil ?_)
    | (show WC _ _ _ _ _ _; first
      | refine WC.seq ?_
      | refine WC.region ?_
      | refine WC.ret ?_
      | refine WC.condT rfl (by with_reducible rfl) ?_)
    | refine seqQ_n ?_
    | refine seqQ_r ?_)
  exact fin1r rfl rfl ⟨hS.upd, rfl⟩
set_option maxHeartbeats 16000000 in
set_option maxRecDepth 100000 in
theorem tpack_c {Tp q mb lb : Nat} {D D' : Dk} {T T' : Tb} {fp : List Nat} {w0 : World} {e : Int} (hi : InL w0 [tabC Tp q T fp, dkC q mb lb D]) (hu : tabPack T D = (e, T', D')) (hl : T.dir.length ≤ 1099511000) (hlg : T.log.p.length ≤ 1099511620) (hno : D.Sm 1099511627776)
    (hr : (recordE (packL T.rows)).length ≤ 549755813888) (hn : T.rows.length ≤ 1048576) (hk : ∀ p ∈ T.rows, p.1.length ≤ 1099511627776) :
    Cal Tryz.prog 25 [.pointer (some ⟨Tp, 0, none⟩)] w0
      (fun v w' => v = .int .i64 e ∧ ∃ fp', MutL w0 w' [tabC Tp q T fp, dkC q mb lb D] [tabC Tp q T' fp', dkC q mb lb D']) := by
  refine Cal.mkL hi (by kernel_rfl) Tryz.func25 rfl rfl fun hS => ?_
  obtain ⟨_, ⟨m, L, fpl, rfl⟩, hfp, hS⟩ := St.objOpen hS
  replace hS : St w0 (fps [tabC Tp q T fp, dkC q mb lb D]) w0 [tbB Tp (some ⟨q, 0, none⟩) T.dir (some ⟨L, 0, none⟩) m, rowsC m T.rows, lgC L q T.log fpl, dkC q mb lb D] (ZL w0 [tabC Tp q T fp, dkC q mb lb D]) := hS
  obtain ⟨dir, rows, G⟩ := T
  dsimp only at hl hlg hr hn hk hS hu
  have hpkl := packE_len (recordE (packL rows))
  have hpn := putN_len10 (n := (recordE (packL rows)).length) (by omega)
  have hk7 : ([47, 98, 97, 115, 101, 95, 116] : List UInt8).length = 7 := rfl
  have hk5 : ([47, 98, 97, 115, 101] : List UInt8).length = 5 := rfl
  obtain ⟨t, ht⟩ : ∃ t, t = baseP dir ++ [95, 116] := ⟨_, rfl⟩
  have htl : t.length ≤ 1099511627 := by rw [ht]; simp; omega
  have hbt : dir ++ [47, 98, 97, 115, 101, 95, 116] = t := by rw [ht]; simp
  rcases h1 : D.write t (packE (recordE (packL rows))) with ⟨e1, D1⟩
  rcases h2 : D1.sync t with ⟨e2, D2⟩
  rcases h3 : D2.rename t (baseP dir) with ⟨e3, D3⟩
  rcases h4 : D3.fill G.p [] with ⟨e4, D4⟩
  have m1 : D1.Sm 1099511627776 := by have := hno.write (p := t) (s := packE (recordE (packL rows))) (by omega); rwa [h1] at this
  have m2 : D2.Sm 1099511627776 := by have := m1.sync (p := t); rwa [h2] at this
  have m3 : D3.Sm 1099511627776 := by have := m2.rename (p := t) (r := baseP dir); rwa [h3] at this
  have hu : (if e1 ≠ 0 then (e1, ⟨dir, rows, G⟩, D1) else if e2 ≠ 0 then (e2, ⟨dir, rows, G⟩, D2) else if e3 ≠ 0 then (e3, ⟨dir, rows, G⟩, D3) else (e4, ⟨dir, rows, G.reset e4⟩, D4)) = (e, T', D') := by
    have hf : D.fill (baseP dir) (packE (recordE (packL rows))) = if e1 ≠ 0 then (e1, D1) else if e2 ≠ 0 then (e2, D2) else (e3, D3) := by unfold Dk.fill; rw [← ht, h1]; dsimp only; rw [h2]; dsimp only; rw [h3]
    rw [← hu]
    unfold tabPack
    dsimp only
    rw [hf]
    by_cases c1 : e1 = 0
    · rw [if_neg (fun h => h c1), if_neg (fun h : e1 ≠ 0 => h c1)]
      by_cases c2 : e2 = 0
      · rw [if_neg (fun h => h c2), if_neg (fun h : e2 ≠ 0 => h c2)]
        dsimp only
        rw [h4]
      · rw [if_pos c2, if_pos c2, if_pos c2]
    · rw [if_pos c1, if_pos c1, if_pos c1]
  have hks : ∀ w0 x, w0.heap[x]? = some (.cells ⟨[.map (some m)]⟩ keysVT (0, 0)) → MapIs m (mmap encRow rows) w0 → Cal Tryz.prog 62 [.func (.func 108) ⟨[]⟩ ⟨[.pointer (some ⟨x, 0, none⟩)]⟩] w0 fun v w' => Upd [] w0 w' ∧ ∃ A cap, v = .slice A (keysE rows).length cap ∧
      New w0 w' (.own (.slice A (keysE rows).length cap) 9 1 (keysE rows).length (strs (keysE rows))) := fun w0 x hx hm => by
    have h := sortedV_c hx hm (by unfold mmap; rw [List.length_map]; omega) (fun p hp => by
      obtain ⟨y, hy, rfl⟩ := List.mem_map.1 hp
      exact hk y hy)
    have e1 : (mmap encRow rows).map Prod.fst = rows.map Prod.fst := by unfold mmap; rw [List.map_map]; rfl
    have e2 : (mmap encRow rows).length = rows.length := by unfold mmap; rw [List.length_map]
    rw [e1, e2] at h
    rw [keysE_len]
    exact h
  have hkl := keysE_len rows
  have hfin : ∀ (l : List (List UInt8)), l = keysE rows → l.map (rowOp rows) = packL rows := fun l h => by rw [h]; rfl
  repeat' (first
    | (show WL _ _ _ _ _ _ _; first
      | refine WL.pure rfl rfl rfl rfl ?_
      | refine WL.nil ?_
      | refine WL.load hS rfl rfl (LdOk.box (by repeat (first | exact List.Mem.head _ | apply List.Mem.tail)) rfl) rfl rfl rfl ?_
      | (refine WL.slit (t := 22) hS rfl rfl rfl rfl rfl ?_; intro w ob hS; have hS := hS.boxRow (n := 0) (size := 3) .here rfl (Nat.zero_le _))
      | (refine WL.callG rfl rfl (mapsKeysV_n m _) rfl rfl rfl ?_; rintro v w ⟨x, rfl, hup, hnew⟩; have hS := hS.new hup hnew; clear hup hnew)
      | (refine WL.callG rfl rfl (hks _ _ (hS.holds _ (List.Mem.head _)) (hS.holds (rowsC m rows) (by repeat (first | exact List.Mem.head _ | apply List.Mem.tail))).1) rfl rfl rfl ?_; rintro v w ⟨hup, A, cap, rfl, hnew⟩; have hS := hS.new hup hnew; clear hup hnew))
    | (show WC _ _ _ _ _ _; first
      | refine WC.seq ?_
      | refine WC.region ?_
      | refine WC.block ?_
      | refine WC.skip ?_
      | refine WC.condF rfl (by with_reducible rfl) ?_)
    | refine seqQ_n ?_)
  replace hS := hS.droplast2 (D := [.own (.slice (some ⟨ob, 0, none⟩) 0 0) 24 3 0 [], .own (.slice A (keysE rows).length cap) 9 1 (keysE rows).length (strs (keysE rows)), tbB Tp (some ⟨q, 0, none⟩) dir (some ⟨L, 0, none⟩) m, rowsC m rows, lgC L q G fpl, dkC q mb lb D]) (by repeat (first | exact Pulls.nil | (apply Pulls.cons; focus (repeat (first | exact Pull.here | apply Pull.there)))))
  refine WC.loop (σ := Nat × List Chg × Option Addr × Nat) [0, 18, 19] (fun (k, l, A2, cap2) => [(3, .slice A2 l.length cap2), (20, .int .i64 (k : Int))])
    (fun (k, l, A2, cap2) w => k ≤ (keysE rows).length ∧ l = ((keysE rows).take k).map (rowOp rows) ∧ St w0 (fps [tabC Tp q ⟨dir, rows, G⟩ fp, dkC q mb lb D]) w [.own (.slice A2 l.length cap2) 24 3 l.length (chgs l), .own (.slice A (keysE rows).length cap) 9 1 (keysE rows).length (strs (keysE rows)), tbB Tp (some ⟨q, 0, none⟩) dir (some ⟨L, 0, none⟩) m, rowsC m rows, lgC L q G fpl, dkC q mb lb D] (ZL w0 [tabC Tp q ⟨dir, rows, G⟩ fp, dkC q mb lb D]))
    (fun (k, _) => (keysE rows).length - k) (0, [], some ⟨ob, 0, none⟩, 0) ⟨Nat.zero_le _, rfl, hS⟩ ⟨rfl, rfl, trivial⟩ ?_
  clear hS hks
  rintro ⟨k, l, A2, cap2⟩ g w ⟨hkk, hleq, hS⟩
  show WC _ _ _ (lf _ [(3, .slice A2 l.length cap2), (20, .int .i64 (k : Int))] _ _) _ _
  have hcap2 := (hS.own_len (List.Mem.head _)).2.2
  have hll : l.length = k := by rw [hleq, List.length_map, List.length_take]; omega
  by_cases hlt : k < (keysE rows).length
  · clear hu h1 h2 h3 h4 m1 m2 m3 hk
    have hx : (strs (keysE rows))[k * 1]? = some (str (keysE rows)[k]) := by rw [Nat.mul_one]; exact strs_at hlt
    have hnext : ((keysE rows).take (k + 1)).map (rowOp rows) = l ++ [rowOp rows (keysE rows)[k]] := by rw [List.take_succ_eq_append_getElem hlt, List.map_append, ← hleq]; rfl
    generalize (keysE rows)[k] = key at *
    have hlk := look_row1 rows key
    have hro : rowOp rows key = ⟨key, (mget rows key).getD [], false⟩ := rfl
    rw [hro] at hnext
    generalize (mget rows key).getD [] = val at *
    clear hleq hfin
    obtain ⟨rg, ro, rfl⟩ := hS.own_addr (List.Mem.tail _ (List.Mem.head _)) (Nat.lt_of_le_of_lt (Nat.zero_le k) hlt)
    repeat' (first
      | (show WL _ _ _ _ _ _ _; first
        | refine WL.pure rfl rfl rfl rfl ?_
        | refine WL.nil ?_
        | refine WL.load hS rfl rfl (LdOk.box (by repeat (first | exact List.Mem.head _ | apply List.Mem.tail)) rfl) rfl rfl rfl ?_
        | refine WL.add rfl rfl rfl (by omega) rfl rfl rfl ?_
        | (refine WL.load hS rfl rfl (LdOk.ownAt (by repeat (first | exact List.Mem.head _ | apply List.Mem.tail)) rfl ⟨_, rfl⟩ hx rfl) rfl rfl rfl ?_)
        | (refine WL.mget hS rfl rfl rfl rfl (.mk' (by repeat (first | exact List.Mem.head _ | apply List.Mem.tail))) hlk rfl rfl rfl ?_)
        | (refine WL.app hS rfl rfl rfl rfl (RdOk.box (by repeat (first | exact List.Mem.head _ | apply List.Mem.tail))) rfl rfl (fun A cap => by repeat (first | exact Repl.here | apply Repl.there)) (by omega) rfl rfl rfl ?_; intro A3 cap3 w hS)
        | refine WL.index rfl rfl rfl rfl (by first | with_reducible assumption | omega) rfl rfl rfl rfl ?_
        | refine WL.build rfl rfl rfl rfl rfl ?_
        | (refine WL.slit hS rfl rfl rfl rfl rfl ?_; intro w b hS))
      | (show WC _ _ _ _ _ _; first
        | refine WC.seq ?_
        | refine WC.region ?_
        | refine WC.block ?_
        | refine WC.skip ?_
        | refine WC.condT rfl (decide_eq_true (by first | with_reducible assumption | omega)) ?_)
      | refine seqQ_n ?_
      | refine blkQ_n ?_)
    exact rndQ_n (k + 1, l ++ [⟨key, val, false⟩], A3, cap3) ⟨by omega, hnext.symm, by
      have hS := hS.drop
      rw [List.length_append, ← chgs_snoc]
      exact hS⟩ (by show (keysE rows).length - (k + 1) < (keysE rows).length - k; omega) ⟨by rw [List.length_append]; rfl, vint (by omega), trivial⟩ ⟨rfl, rfl, rfl, trivial⟩
  · have hke : k = (keysE rows).length := by omega
    subst hke
    rw [List.take_length] at hleq
    obtain rfl : l = packL rows := hleq
    have hpl : (packL rows).length ≤ 1099511627776 := by omega
    clear hfin hk
    repeat' (first
      | (show WL _ _ _ _ _ _ _; first
        | refine WL.pure rfl rfl rfl rfl ?_
        | refine WL.nil ?_
        | refine WL.load hS rfl rfl (LdOk.box (by repeat (first | exact List.Mem.head _ | apply List.Mem.tail)) rfl) rfl rfl rfl ?_
        | (refine WL.cat rfl rfl rfl (by omega) rfl rfl rfl ?_; rw [hbt])
        | (refine WL.callL (D := [dkC q mb lb D1]) hS (by repeat (first | exact Pulls.nil | (apply Pulls.cons; focus (repeat (first | exact Pull.here | apply Pull.there))))) rfl rfl (fun hI => sync_c t hI.head hI.headB htl) rfl rfl rfl ?_; rintro v w ⟨rfl, hm⟩ hS; rw [h2] at hm ⊢; replace hS := hS _ (.of1 hm); clear hm)
        | (refine WL.callL (D := [lgC L q G fpl, dkC q mb lb D3]) hS (by repeat (first | exact Pulls.nil | (apply Pulls.cons; focus (repeat (first | exact Pull.here | apply Pull.there))))) rfl rfl (fun hI => reset_c hI h4 hlg m3) rfl rfl rfl ?_; rintro v w ⟨rfl, fpl2, hm⟩ hS; replace hS := hS _ hm; clear hm))
      | (show WC _ _ _ _ _ _; first
        | refine WC.seq ?_
        | refine WC.region ?_
        | refine WC.skip ?_
        | refine WC.exit ?_
        | refine WC.ret ?_
        | (show WC _ _ (Code.region _ (List.toArray [_, _, _, _, _, _, _, _, _, _]) true) _ _ _; refine WC.drawL [dkC q mb lb D] hS (by repeat (first | exact Pulls.nil | (apply Pulls.cons; focus (repeat (first | exact Pull.here | apply Pull.there))))) [0,1,2,3,4,5,9] [0,1,2,3,4,5,6,7,8,9] (by kernel_rfl) (by kernel_rfl) ?_; clear hS; intro w hS hM)
        | (show WC _ _ (Code.region _ (List.toArray [_, _, _, _, _, _, _, _, _, _, _, _]) true) _ _ _; refine WC.drawL [dkC q mb lb D2] hS (by repeat (first | exact Pulls.nil | (apply Pulls.cons; focus (repeat (first | exact Pull.here | apply Pull.there))))) [0,1,2,3,4,5,6,7,8,9,11] [0,1,2,3,4,5,6,7,8,9,10,11] (by kernel_rfl) (by kernel_rfl) ?_; clear hS; intro w hS hM)
        | refine WC.condF rfl (decide_eq_false (by first | with_reducible assumption | omega)) ?_
        | (refine WC.cond rfl (fun h => ?_) (fun h => ?_) <;> (try simp only [Classical.not_not, Bool.not_eq_true', Bool.not_eq_false', Bool.not_eq_eq_eq_not, Bool.not_true, Bool.not_false, beq_iff_eq, beq_eq_false_iff_ne, ne_eq, decide_eq_decide, decide_eq_true_eq, decide_eq_false_iff_not, Bool.and_eq_true, Bool.or_eq_true, Bool.and_eq_false_iff, Bool.or_eq_false_iff] at h) <;> (try (exfalso; first | omega | contradiction))))
      | (show WD _ _ _ _ _ _ _ _ _; first
        | refine WD.pure rfl rfl rfl rfl rfl ?_
        | refine WD.nil ?_
        | refine WD.load rfl rfl (LdOk.box (by repeat (first | exact List.Mem.head _ | apply List.Mem.tail)) rfl) rfl rfl rfl rfl ?_
        | (refine WD.cat rfl rfl rfl (by omega) rfl rfl rfl rfl ?_)
        | (refine WD.calls hS hM rfl rfl (record_c (packL rows) (St.ownSl (by decide) hS (by repeat (first | exact List.Mem.head _ | apply List.Mem.tail))) (by omega) hpl) rfl rfl rfl rfl rfl ?_; clear hS; rintro v w rfl hS)
        | (refine WD.calls hS hM rfl rfl (pack_c (recordE (packL rows)) _ (by omega)) rfl rfl rfl rfl rfl ?_; clear hS; rintro v w rfl hS)
        | (refine WD.callL (D := [dkC q mb lb D]) hS (by repeat (first | exact Pulls.nil | (apply Pulls.cons; focus (repeat (first | exact Pull.here | apply Pull.there))))) (.refl _ _) rfl rfl (fun hI => write_c t (packE (recordE (packL rows))) hI.head hI.headB htl (hno.no _) (by omega) (hno.at_ _)) rfl rfl rfl rfl rfl ?_; rintro v w ⟨rfl, hm⟩; rw [h1] at hm ⊢; refine ⟨_, .of1 hm, fun hS hM => ?_⟩; clear hm)
        | (refine WD.callL (D := [dkC q mb lb D2]) hS (by repeat (first | exact Pulls.nil | (apply Pulls.cons; focus (repeat (first | exact Pull.here | apply Pull.there))))) (.refl _ _) rfl rfl (fun hI => rename_c t (baseP dir) hI.head hI.headB htl (by rw [List.length_append]; omega) (m2.no _) (m2.at_ _) (m2.at_ _)) rfl rfl rfl rfl rfl ?_; rintro v w ⟨rfl, hm⟩; rw [h3] at hm ⊢; refine ⟨_, .of1 hm, fun hS hM => ?_⟩; clear hm))
      | refine seqQ_n ?_
      | refine seqQ_x ?_
      | refine seqQ_r ?_
      | refine blkQ_hit rfl ?_
      | refine rndQ_x ?_)
    · rw [if_pos h] at hu
      cases hu
      have hS := St.objClose (φ := tabφ Tp q ⟨dir, rows, G⟩) (hS.pulls (D := [tbB Tp (some ⟨q, 0, none⟩) dir (some ⟨L, 0, none⟩) m, rowsC m rows, lgC L q G fpl]) (by repeat (first | exact Pulls.nil | (apply Pulls.cons; focus (repeat (first | exact Pull.here | apply Pull.there)))))) ⟨m, L, fpl, rfl⟩
      exact fin1r rfl rfl ⟨rfl, _, hS.mutLp (by repeat (first | exact Pulls.nil | (apply Pulls.cons; focus (repeat (first | exact Pull.here | apply Pull.there)))))⟩
    · rw [if_neg (fun hh => hh (by assumption)), if_pos h] at hu
      cases hu
      have hS := St.objClose (φ := tabφ Tp q ⟨dir, rows, G⟩) (hS.pulls (D := [tbB Tp (some ⟨q, 0, none⟩) dir (some ⟨L, 0, none⟩) m, rowsC m rows, lgC L q G fpl]) (by repeat (first | exact Pulls.nil | (apply Pulls.cons; focus (repeat (first | exact Pull.here | apply Pull.there)))))) ⟨m, L, fpl, rfl⟩
      exact fin1r rfl rfl ⟨rfl, _, hS.mutLp (by repeat (first | exact Pulls.nil | (apply Pulls.cons; focus (repeat (first | exact Pull.here | apply Pull.there)))))⟩
    · rw [if_neg (fun hh => hh (by assumption)), if_neg (fun hh => hh (by assumption)), if_pos h] at hu
      cases hu
      have hS := St.objClose (φ := tabφ Tp q ⟨dir, rows, G⟩) (hS.pulls (D := [tbB Tp (some ⟨q, 0, none⟩) dir (some ⟨L, 0, none⟩) m, rowsC m rows, lgC L q G fpl]) (by repeat (first | exact Pulls.nil | (apply Pulls.cons; focus (repeat (first | exact Pull.here | apply Pull.there)))))) ⟨m, L, fpl, rfl⟩
      exact fin1r rfl rfl ⟨rfl, _, hS.mutLp (by repeat (first | exact Pulls.nil | (apply Pulls.cons; focus (repeat (first | exact Pull.here | apply Pull.there)))))⟩
    · rw [if_neg (fun hh => hh (by assumption)), if_neg (fun hh => hh (by assumption)), if_neg (fun hh => hh (by assumption))] at hu
      cases hu
      have hS := St.objClose (φ := tabφ Tp q ⟨dir, rows, G.reset e⟩) (hS.pulls (D := [tbB Tp (some ⟨q, 0, none⟩) dir (some ⟨L, 0, none⟩) m, rowsC m rows, lgC L q (G.reset e) fpl2]) (by repeat (first | exact Pulls.nil | (apply Pulls.cons; focus (repeat (first | exact Pull.here | apply Pull.there)))))) ⟨m, L, fpl2, rfl⟩
      exact fin1r rfl rfl ⟨rfl, _, hS.mutLp (by repeat (first | exact Pulls.nil | (apply Pulls.cons; focus (repeat (first | exact Pull.here | apply Pull.there)))))⟩
end Go.Proofs.YtmofcalcdjoicaaGreatDoor

/- What is proved: what committing a batch does. Conditions: no limit at the disk, texts of bounded length. -/
set_option linter.unusedSimpArgs false
set_option linter.unusedVariables false
namespace Go.Proofs.YtmofcalcdjoicaaGreatDoor
open Go Go.J Go.RowKit

def tabCommit (T : Tb) (D : Dk) (ops : List Chg) : Int × Tb × Dk :=
  if ops = [] then (0, T, D)
  else if (walAdd T.log D (recordE ops)).1 ≠ 0 then ((walAdd T.log D (recordE ops)).1, { T with log := (walAdd T.log D (recordE ops)).2.1 }, (walAdd T.log D (recordE ops)).2.2)
  else if 16 ≤ (walAdd T.log D (recordE ops)).2.1.recs.length then tabPack ⟨T.dir, applyE T.rows ops, (walAdd T.log D (recordE ops)).2.1⟩ (walAdd T.log D (recordE ops)).2.2
  else (0, ⟨T.dir, applyE T.rows ops, (walAdd T.log D (recordE ops)).2.1⟩, (walAdd T.log D (recordE ops)).2.2)
/-- what is left of the batch -/
def bchLeft (T : Tb) (D : Dk) (m : Bch) : Bch := if (walAdd T.log D (recordE (m.map Prod.snd))).1 ≠ 0 then m else []
theorem mget_at : ∀ {m : Bch}, (m.map Prod.fst).Nodup → ∀ {k : Nat} (h : k < m.length), mget m m[k].1 = some m[k].2
  | [], _, k, h => by simp at h
  | (a, b) :: m, hn, 0, h => by simp [mget]
  | (a, b) :: m, hn, k + 1, h => by
    have hn' : a ∉ m.map Prod.fst ∧ (m.map Prod.fst).Nodup := by simpa using hn
    have hk : k < m.length := by simpa using h
    have hne : ¬ m[k].1 = a := fun e => hn'.1 (by rw [← e]; exact List.mem_map_of_mem (List.getElem_mem hk))
    show mget ((a, b) :: m) m[k].1 = some m[k].2
    unfold mget
    rw [if_neg hne]
    exact mget_at hn'.2 hk
theorem walAdd_len (G : Lg) (D : Dk) (r : List UInt8) : (walAdd G D r).2.1.recs.length ≤ G.recs.length + 1 ∧ (walAdd G D r).2.1.p = G.p := by
  unfold walAdd
  repeat' split
  · exact ⟨by dsimp only; omega, rfl⟩
  · exact ⟨by dsimp only; omega, rfl⟩
  · exact ⟨by simp [Lg.push], rfl⟩
theorem Dk.Sm.up {D : Dk} {B C : Nat} (h : D.Sm B) (hc : B ≤ C) : D.Sm C := ⟨h.1, fun x hx => Nat.le_trans (h.2 x hx) hc⟩
theorem Dk.Sm.append {D : Dk} {B C : Nat} (h : D.Sm B) {p s : List UInt8} (hs : s.length ≤ C) : (D.append p s).2.Sm (B + C) := by
  unfold Dk.append
  repeat' split
  · exact h.up (Nat.le_add_right _ _)
  · exact h.step.up (Nat.le_add_right _ _)
  · refine (h.step.up (Nat.le_add_right B C)).set ?_
    have := h.step.at_ p
    simp only [List.length_append]
    omega
theorem Dk.Sm.walAdd {D : Dk} {G : Lg} {r : List UInt8} (h : D.Sm 549755813888) (hr : r.length ≤ 4294967296) : (walAdd G D r).2.2.Sm 1099511627776 := by
  have hpk := packE_len r
  have hpn := putN_len10 (n := r.length) (by omega)
  have h1 : (D.append G.p (packE r)).2.Sm 1099511627776 := (h.append (C := 8589934592) (by omega)).up (by omega)
  unfold Go.Proofs.YtmofcalcdjoicaaGreatDoor.walAdd
  repeat' split
  · exact h1
  · exact h1.sync
  · exact h1.sync
set_option maxHeartbeats 4000000 in
set_option maxRecDepth 100000 in
theorem bcommitNil_c (w0 : World) : Cal Tryz.prog 20 [.pointer none] w0 (fun v w' => Upd [] w0 w' ∧ v = .int .i64 1) := by
  refine Cal.mk' (by kernel_rfl) Tryz.func20 rfl rfl fun hS => ?_
  repeat' (first
    | (show WL _ _ _ _ _ _ _; first
      | refine WL.pure rfl rfl rfl rfl ?_
      | refine WL.nil ?_
      | refine WL.skip rfl rfl rfl ?_)
    | (show WC _ _ _ _ _ _; first
      | refine WC.seq ?_
      | refine WC.region ?_
      | refine WC.ret ?_
      | refine WC.condT rfl (by with_reducible rfl) ?_)
    | refine seqQ_n ?_
    | refine seqQ_r ?_)
  exact fin1r rfl rfl ⟨hS.upd, rfl⟩
set_option maxHeartbeats 16000000 in
set_option maxRecDepth 100000 in
theorem bcommit_c {B Tp q mb lb : Nat} {D D' : Dk} {T T' : Tb} {m : Bch} {fb fp : List Nat} {w0 : World} {e : Int} (hi : InL w0 [bchC B (some ⟨Tp, 0, none⟩) m fb, tabC Tp q T fp, dkC q mb lb D]) (hu : tabCommit T D (m.map Prod.snd) = (e, T', D'))
    (hl : T.dir.length ≤ 1099511000) (hlg : T.log.p.length ≤ 1099511620) (hno : D.Sm 549755813888) (hr : (recordE (m.map Prod.snd)).length ≤ 1073741824) (hn : T.log.recs.length ≤ 4194303) (hml : m.length ≤ 1048576)
    (hr2 : (recordE (packL (applyE T.rows (m.map Prod.snd)))).length ≤ 549755813888) (hn2 : (applyE T.rows (m.map Prod.snd)).length ≤ 1048576) (hk2 : ∀ p ∈ applyE T.rows (m.map Prod.snd), p.1.length ≤ 1099511627776) :
    Cal Tryz.prog 20 [.pointer (some ⟨B, 0, none⟩)] w0
      (fun v w' => v = .int .i64 e ∧ ∃ fb' fp', MutL w0 w' [bchC B (some ⟨Tp, 0, none⟩) m fb, tabC Tp q T fp, dkC q mb lb D] [bchC B (some ⟨Tp, 0, none⟩) (bchLeft T D m) fb', tabC Tp q T' fp', dkC q mb lb D']) := by
  refine Cal.mkL hi (by kernel_rfl) Tryz.func20 rfl rfl fun hS => ?_
  obtain ⟨_, ⟨A, cap, mb2, rfl⟩, hfb, hS⟩ := St.objOpen hS
  replace hS : St w0 (fps [bchC B (some ⟨Tp, 0, none⟩) m fb, tabC Tp q T fp, dkC q mb lb D]) w0 [.box B 114 [.pointer (some ⟨Tp, 0, none⟩), .slice A m.length cap, .map (some mb2)], .own (.slice A m.length cap) 9 1 m.length (strs (m.map Prod.fst)), mapC mb2 (mmap encChg m), tabC Tp q T fp, dkC q mb lb D] _ := hS
  have hnd : (m.map Prod.fst).Nodup := by
    have h : ((mmap encChg m).map Prod.fst).Nodup := (hS.holds (mapC mb2 (mmap encChg m)) (by repeat (first | exact List.Mem.head _ | apply List.Mem.tail))).1.1
    have e1 : (mmap encChg m).map Prod.fst = m.map Prod.fst := by unfold mmap; rw [List.map_map]; rfl
    rwa [e1] at h
  replace hS := hS.pulls (D := [tabC Tp q T fp]) (by repeat (first | exact Pulls.nil | (apply Pulls.cons; focus (repeat (first | exact Pull.here | apply Pull.there)))))
  obtain ⟨_, ⟨mr, L, fpl, rfl⟩, hfp, hS⟩ := St.objOpen hS
  obtain ⟨dir, rows, G⟩ := T
  dsimp only at hl hlg hr hn hS hu hr2 hn2 hk2
  replace hS : St w0 (fps [bchC B (some ⟨Tp, 0, none⟩) m fb, tabC Tp q ⟨dir, rows, G⟩ fp, dkC q mb lb D]) w0 [tbB Tp (some ⟨q, 0, none⟩) dir (some ⟨L, 0, none⟩) mr, rowsC mr rows, lgC L q G fpl, .box B 114 [.pointer (some ⟨Tp, 0, none⟩), .slice A m.length cap, .map (some mb2)], .own (.slice A m.length cap) 9 1 m.length (strs (m.map Prod.fst)), mapC mb2 (mmap encChg m), dkC q mb lb D] (ZL w0 [bchC B (some ⟨Tp, 0, none⟩) m fb, tabC Tp q ⟨dir, rows, G⟩ fp, dkC q mb lb D]) := hS
  by_cases hm0 : m = []
  · subst hm0
    have hu : (0, ⟨dir, rows, G⟩, D) = (e, T', D') := hu
    cases hu
    clear hnd
    have h0 : (([] : Bch).length : Int) = 0 := rfl
    repeat' (first
      | (show WL _ _ _ _ _ _ _; first
        | refine WL.pure rfl rfl rfl rfl ?_
        | refine WL.nil ?_
        | refine WL.load hS rfl rfl (LdOk.box (by repeat (first | exact List.Mem.head _ | apply List.Mem.tail)) rfl) rfl rfl rfl ?_)
      | (show WC _ _ _ _ _ _; first
        | refine WC.seq ?_
        | refine WC.region ?_
        | refine WC.skip ?_
        | refine WC.ret ?_
        | refine WC.condF rfl (by with_reducible rfl) ?_
        | refine WC.condT rfl (by decide) ?_)
      | refine seqQ_n ?_
      | refine seqQ_r ?_)
    have hS := St.objClose (φ := tabφ Tp q ⟨dir, rows, G⟩) (hS.pulls (D := [tbB Tp (some ⟨q, 0, none⟩) dir (some ⟨L, 0, none⟩) mr, rowsC mr rows, lgC L q G fpl]) (by repeat (first | exact Pulls.nil | (apply Pulls.cons; focus (repeat (first | exact Pull.here | apply Pull.there)))))) ⟨mr, L, fpl, rfl⟩
    have hS := St.objClose (φ := bchφ B (some ⟨Tp, 0, none⟩) []) (hS.pulls (D := [.box B 114 [.pointer (some ⟨Tp, 0, none⟩), .slice A ([] : Bch).length cap, .map (some mb2)], .own (.slice A ([] : Bch).length cap) 9 1 ([] : Bch).length (strs (([] : Bch).map Prod.fst)), mapC mb2 (mmap encChg [])]) (by repeat (first | exact Pulls.nil | (apply Pulls.cons; focus (repeat (first | exact Pull.here | apply Pull.there)))))) ⟨A, cap, mb2, rfl⟩
    have hleft : bchLeft ⟨dir, rows, G⟩ D [] = [] := by unfold bchLeft; split <;> rfl
    rw [hleft]
    exact fin1r rfl rfl ⟨rfl, _, _, hS.mutLp (by repeat (first | exact Pulls.nil | (apply Pulls.cons; focus (repeat (first | exact Pull.here | apply Pull.there)))))⟩
  have hmpos : 0 < m.length := List.length_pos_iff.2 hm0
  obtain ⟨ag, ao, rfl⟩ := hS.own_addr (A := A) (n := m.length) (by repeat (first | exact List.Mem.head _ | apply List.Mem.tail)) hmpos
  repeat' (first
    | (show WL _ _ _ _ _ _ _; first
      | refine WL.pure rfl rfl rfl rfl ?_
      | refine WL.nil ?_
      | refine WL.load hS rfl rfl (LdOk.box (by repeat (first | exact List.Mem.head _ | apply List.Mem.tail)) rfl) rfl rfl rfl ?_
      | (refine WL.slit (t := 22) hS rfl rfl rfl rfl rfl ?_; intro w ob hS; have hS := hS.boxRow (n := 0) (size := 3) .here rfl (Nat.zero_le _)))
    | (show WC _ _ _ _ _ _; first
      | refine WC.seq ?_
      | refine WC.region ?_
      | refine WC.block ?_
      | refine WC.skip ?_
      | refine WC.condF rfl (by with_reducible rfl) ?_
      | refine WC.condF rfl (decide_eq_false (by first | with_reducible assumption | omega)) ?_)
    | refine seqQ_n ?_)
  replace hS := hS.droplast2 (D := [.own (.slice (some ⟨ob, 0, none⟩) 0 0) 24 3 0 [], .own (.slice (some ⟨ag, ao, none⟩) m.length cap) 9 1 m.length (strs (m.map Prod.fst)), .box B 114 [.pointer (some ⟨Tp, 0, none⟩), .slice (some ⟨ag, ao, none⟩) m.length cap, .map (some mb2)], mapC mb2 (mmap encChg m), tbB Tp (some ⟨q, 0, none⟩) dir (some ⟨L, 0, none⟩) mr, rowsC mr rows, lgC L q G fpl, dkC q mb lb D]) (by repeat (first | exact Pulls.nil | (apply Pulls.cons; focus (repeat (first | exact Pull.here | apply Pull.there)))))
  refine WC.loop (σ := Nat × List Chg × Option Addr × Nat) [0, 26, 27] (fun (k, l, A2, cap2) => [(3, .slice A2 l.length cap2), (28, .int .i64 (k : Int))])
    (fun (k, l, A2, cap2) w => k ≤ m.length ∧ l = (m.take k).map Prod.snd ∧ St w0 (fps [bchC B (some ⟨Tp, 0, none⟩) m fb, tabC Tp q ⟨dir, rows, G⟩ fp, dkC q mb lb D]) w [.own (.slice A2 l.length cap2) 24 3 l.length (chgs l), .own (.slice (some ⟨ag, ao, none⟩) m.length cap) 9 1 m.length (strs (m.map Prod.fst)), .box B 114 [.pointer (some ⟨Tp, 0, none⟩), .slice (some ⟨ag, ao, none⟩) m.length cap, .map (some mb2)], mapC mb2 (mmap encChg m), tbB Tp (some ⟨q, 0, none⟩) dir (some ⟨L, 0, none⟩) mr, rowsC mr rows, lgC L q G fpl, dkC q mb lb D] (ZL w0 [bchC B (some ⟨Tp, 0, none⟩) m fb, tabC Tp q ⟨dir, rows, G⟩ fp, dkC q mb lb D]))
    (fun (k, _) => m.length - k) (0, [], some ⟨ob, 0, none⟩, 0) ⟨Nat.zero_le _, rfl, hS⟩ ⟨rfl, rfl, trivial⟩ ?_
  clear hS
  rintro ⟨k, l, A2, cap2⟩ g w ⟨hkk, hleq, hS⟩
  show WC _ _ _ (lf _ [(3, .slice A2 l.length cap2), (28, .int .i64 (k : Int))] _ _) _ _
  have hcap2 := (hS.own_len (List.Mem.head _)).2.2
  have hll : l.length = k := by rw [hleq, List.length_map, List.length_take]; omega
  by_cases hlt : k < m.length
  · clear hu hk2 hr2 hn2 hr
    have hx : (strs (m.map Prod.fst))[k * 1]? = some (str m[k].1) := by rw [Nat.mul_one, strs_at (by rw [List.length_map]; exact hlt), List.getElem_map]
    have hnext : (m.take (k + 1)).map Prod.snd = l ++ [m[k].2] := by rw [List.take_succ_eq_append_getElem hlt, List.map_append, ← hleq]; rfl
    have hlk := look_chg1 m m[k].1
    rw [mget_at hnd hlt] at hlk
    replace hlk : lookV (encChg Chg0) (mmap encChg m) m[k].1 false = encChg m[k].2 := hlk
    generalize m[k].1 = key at *
    generalize m[k].2 = o at *
    obtain ⟨okey, oval, ogone⟩ := o
    clear hleq hnd
    repeat' (first
      | (show WL _ _ _ _ _ _ _; first
        | refine WL.pure rfl rfl rfl rfl ?_
        | refine WL.nil ?_
        | refine WL.load hS rfl rfl (LdOk.box (by repeat (first | exact List.Mem.head _ | apply List.Mem.tail)) rfl) rfl rfl rfl ?_
        | refine WL.add rfl rfl rfl (by omega) rfl rfl rfl ?_
        | (refine WL.load hS rfl rfl (LdOk.ownAt (by repeat (first | exact List.Mem.head _ | apply List.Mem.tail)) rfl ⟨_, rfl⟩ hx rfl) rfl rfl rfl ?_)
        | (refine WL.mget hS rfl rfl rfl rfl (.mk' (by repeat (first | exact List.Mem.head _ | apply List.Mem.tail))) hlk rfl rfl rfl ?_)
        | (refine WL.app hS rfl rfl rfl rfl (RdOk.box (by repeat (first | exact List.Mem.head _ | apply List.Mem.tail))) rfl rfl (fun A cap => by repeat (first | exact Repl.here | apply Repl.there)) (by omega) rfl rfl rfl ?_; intro A3 cap3 w hS)
        | refine WL.index rfl rfl rfl rfl (by first | with_reducible assumption | omega) rfl rfl rfl rfl ?_
        | (refine WL.slit hS rfl rfl rfl rfl rfl ?_; intro w b hS))
      | (show WC _ _ _ _ _ _; first
        | refine WC.seq ?_
        | refine WC.region ?_
        | refine WC.block ?_
        | refine WC.skip ?_
        | refine WC.condT rfl (decide_eq_true (by first | with_reducible assumption | omega)) ?_)
      | refine seqQ_n ?_
      | refine blkQ_n ?_)
    exact rndQ_n (k + 1, l ++ [⟨okey, oval, ogone⟩], A3, cap3) ⟨by omega, hnext.symm, by
      have hS := hS.drop
      rw [List.length_append, ← chgs_snoc]
      exact hS⟩ (by show m.length - (k + 1) < m.length - k; omega) ⟨by rw [List.length_append]; rfl, vint (by omega), trivial⟩ ⟨rfl, rfl, rfl, trivial⟩
  · have hke : k = m.length := by omega
    subst hke
    rw [List.take_length] at hleq
    have hne : l ≠ [] := fun h => by rw [h] at hll; exact hm0 (List.eq_nil_of_length_eq_zero hll.symm)
    unfold tabCommit at hu
    unfold bchLeft
    dsimp only at hu ⊢
    rw [← hleq] at hu hr hr2 hn2 hk2 ⊢
    rw [if_neg hne] at hu
    have hwl := walAdd_len G D (recordE l)
    have hwsm := Dk.Sm.walAdd (G := G) (r := recordE l) hno (by omega)
    rcases hwa : walAdd G D (recordE l) with ⟨e1, G1, D1⟩
    rw [hwa] at hu hwl hwsm
    dsimp only at hu hwl hwsm ⊢
    have hpl : l.length ≤ 1099511627776 := by omega
    clear hnd hkk
    by_cases he1 : e1 = 0
    rotate_left
    · rw [if_pos he1] at hu
      cases hu
      rw [if_pos he1]
      clear hwsm hr2 hn2 hk2 hne
      repeat' (first
        | (show WL _ _ _ _ _ _ _; first
          | refine WL.pure rfl rfl rfl rfl ?_
          | refine WL.nil ?_)
        | (show WC _ _ _ _ _ _; first
          | refine WC.seq ?_
          | refine WC.region ?_
          | refine WC.exit ?_
          | refine WC.ret ?_
          | (show WC _ _ (Code.region _ (List.toArray [_, _, _, _, _, _, _, _, _, _, _]) true) _ _ _; refine WC.drawL [lgC L q G fpl, dkC q mb lb D] hS (by repeat (first | exact Pulls.nil | (apply Pulls.cons; focus (repeat (first | exact Pull.here | apply Pull.there))))) [0,1,2,3,4,5,6,7,10] [0,1,2,3,4,5,6,7,8,9,10] (by kernel_rfl) (by kernel_rfl) ?_; clear hS; intro w hS hM)
          | refine WC.condT rfl (decide_eq_true (by first | with_reducible assumption | omega)) ?_
          | refine WC.condF rfl (decide_eq_false (by first | with_reducible assumption | omega)) ?_)
        | (show WD _ _ _ _ _ _ _ _ _; first
          | refine WD.pure rfl rfl rfl rfl rfl ?_
          | refine WD.nil ?_
          | refine WD.load rfl rfl (LdOk.box (by repeat (first | exact List.Mem.head _ | apply List.Mem.tail)) rfl) rfl rfl rfl rfl ?_
          | (refine WD.calls hS hM rfl rfl (record_c l (St.ownSl (by decide) hS (by repeat (first | exact List.Mem.head _ | apply List.Mem.tail))) (by omega) hpl) rfl rfl rfl rfl rfl ?_; clear hS; rintro v w rfl hS)
          | (refine WD.callL (D := [lgC L q G fpl, dkC q mb lb D]) hS (by repeat (first | exact Pulls.nil | (apply Pulls.cons; focus (repeat (first | exact Pull.here | apply Pull.there))))) (.refl _ _) rfl rfl (fun hI => add_c (recordE l) hI hwa hlg hno.1 hr (by rw [Dk.step_at]; exact hno.at_ _) (by omega)) rfl rfl rfl rfl rfl ?_; rintro v w ⟨rfl, fpl2, hm⟩; refine ⟨_, hm, fun hS hM => ?_⟩; clear hm))
        | refine seqQ_n ?_
        | refine seqQ_x ?_
        | refine seqQ_r ?_
        | refine blkQ_hit rfl ?_
        | refine rndQ_x ?_)
      have hS := St.objClose (φ := tabφ Tp q ⟨dir, rows, G1⟩) (hS.pulls (D := [tbB Tp (some ⟨q, 0, none⟩) dir (some ⟨L, 0, none⟩) mr, rowsC mr rows, lgC L q G1 fpl2]) (by repeat (first | exact Pulls.nil | (apply Pulls.cons; focus (repeat (first | exact Pull.here | apply Pull.there)))))) ⟨mr, L, fpl2, rfl⟩
      have hS := St.objClose (φ := bchφ B (some ⟨Tp, 0, none⟩) m) (hS.pulls (D := [.box B 114 [.pointer (some ⟨Tp, 0, none⟩), .slice (some ⟨ag, ao, none⟩) m.length cap, .map (some mb2)], .own (.slice (some ⟨ag, ao, none⟩) m.length cap) 9 1 m.length (strs (m.map Prod.fst)), mapC mb2 (mmap encChg m)]) (by repeat (first | exact Pulls.nil | (apply Pulls.cons; focus (repeat (first | exact Pull.here | apply Pull.there)))))) ⟨some ⟨ag, ao, none⟩, cap, mb2, rfl⟩
      exact fin1r rfl rfl ⟨rfl, _, _, hS.mutLp (by repeat (first | exact Pulls.nil | (apply Pulls.cons; focus (repeat (first | exact Pull.here | apply Pull.there)))))⟩
    subst he1
    rw [if_neg (fun h => h rfl)] at hu ⊢
    by_cases h16 : 16 ≤ G1.recs.length
    · rw [if_pos h16] at hu
      have hlg1 : G1.p.length ≤ 1099511620 := by rw [hwl.2]; exact hlg
      have hwl1 := hwl.1
      clear hwl hne
      repeat' (first
        | (show WL _ _ _ _ _ _ _; first
          | refine WL.pure rfl rfl rfl rfl ?_
          | refine WL.nil ?_
          | refine WL.load hS rfl rfl (LdOk.box (by repeat (first | exact List.Mem.head _ | apply List.Mem.tail)) rfl) rfl rfl rfl ?_
          | (refine WL.callL (D := [tbB Tp (some ⟨q, 0, none⟩) dir (some ⟨L, 0, none⟩) mr, rowsC mr rows, chgC A2 cap2 l]) hS (by repeat (first | exact Pulls.nil | (apply Pulls.cons; focus (repeat (first | exact Pull.here | apply Pull.there))))) rfl rfl (fun hI => apply_c hI hpl) rfl rfl rfl ?_; rintro v w ⟨rfl, hm⟩ hS; replace hS := hS _ hm; clear hm)
          | (refine WL.mmake hS rfl rfl rfl rfl rfl ?_; intro w nb hS)
          | (refine WL.callL (D := [lgC L q G1 fpl2]) hS (by repeat (first | exact Pulls.nil | (apply Pulls.cons; focus (repeat (first | exact Pull.here | apply Pull.there))))) rfl rfl (fun hI => records_c hI (by omega)) rfl rfl rfl ?_; rintro v w ⟨A4, cap4, rfl, hm⟩ hS; replace hS := hS _ hm; clear hm)
          | (have hS := St.objClose (φ := tabφ Tp q ⟨dir, applyE rows l, G1⟩) (hS.pulls (D := [tbB Tp (some ⟨q, 0, none⟩) dir (some ⟨L, 0, none⟩) mr, rowsC mr (applyE rows l), lgC L q G1 fpl2]) (by repeat (first | exact Pulls.nil | (apply Pulls.cons; focus (repeat (first | exact Pull.here | apply Pull.there)))))) ⟨mr, L, fpl2, rfl⟩; refine WL.callL (D := [tabC Tp q ⟨dir, applyE rows l, G1⟩ _, dkC q mb lb D1]) hS (by repeat (first | exact Pulls.nil | (apply Pulls.cons; focus (repeat (first | exact Pull.here | apply Pull.there))))) rfl rfl (fun hI => tpack_c hI hu hl hlg1 hwsm hr2 hn2 hk2) rfl rfl rfl ?_; rintro v w ⟨rfl, fp3, hm⟩ hS; replace hS := hS _ hm; clear hm)
          | (refine WL.store hS rfl rfl rfl (by repeat (first | exact StB.here rfl | apply StB.there)) rfl rfl rfl ?_; intro w hS))
        | (show WC _ _ _ _ _ _; first
          | refine WC.seq ?_
          | refine WC.region ?_
          | refine WC.skip ?_
          | refine WC.exit ?_
          | refine WC.ret ?_
          | (show WC _ _ (Code.region _ (List.toArray [_, _, _, _, _, _, _, _, _, _, _]) true) _ _ _; refine WC.drawL [lgC L q G fpl, dkC q mb lb D] hS (by repeat (first | exact Pulls.nil | (apply Pulls.cons; focus (repeat (first | exact Pull.here | apply Pull.there))))) [0,1,2,3,4,5,6,7,10] [0,1,2,3,4,5,6,7,8,9,10] (by kernel_rfl) (by kernel_rfl) ?_; clear hS; intro w hS hM)
          | refine WC.condF rfl (by decide) ?_
          | refine WC.condT rfl (decide_eq_true (by first | with_reducible assumption | omega)) ?_
          | refine WC.condF rfl (decide_eq_false (by first | with_reducible assumption | omega)) ?_)
        | (show WD _ _ _ _ _ _ _ _ _; first
          | refine WD.pure rfl rfl rfl rfl rfl ?_
          | refine WD.nil ?_
          | refine WD.load rfl rfl (LdOk.box (by repeat (first | exact List.Mem.head _ | apply List.Mem.tail)) rfl) rfl rfl rfl rfl ?_
          | (refine WD.calls hS hM rfl rfl (record_c l (St.ownSl (by decide) hS (by repeat (first | exact List.Mem.head _ | apply List.Mem.tail))) (by omega) hpl) rfl rfl rfl rfl rfl ?_; clear hS; rintro v w rfl hS)
          | (refine WD.callL (D := [lgC L q G fpl, dkC q mb lb D]) hS (by repeat (first | exact Pulls.nil | (apply Pulls.cons; focus (repeat (first | exact Pull.here | apply Pull.there))))) (.refl _ _) rfl rfl (fun hI => add_c (recordE l) hI hwa hlg hno.1 hr (by rw [Dk.step_at]; exact hno.at_ _) (by omega)) rfl rfl rfl rfl rfl ?_; rintro v w ⟨rfl, fpl2, hm⟩; refine ⟨_, hm, fun hS hM => ?_⟩; clear hm))
        | refine seqQ_n ?_
        | refine seqQ_x ?_
        | refine seqQ_r ?_
        | refine blkQ_hit rfl ?_
        | refine rndQ_x ?_)
      have hS := hS.nilRow 9 1
      have hS := St.objClose (φ := bchφ B (some ⟨Tp, 0, none⟩) []) (hS.pulls (D := [.box B 114 [.pointer (some ⟨Tp, 0, none⟩), .slice none 0 0, .map (some nb)], .own (.slice none 0 0) 9 1 0 [], mapC nb []]) (by repeat (first | exact Pulls.nil | (apply Pulls.cons; focus (repeat (first | exact Pull.here | apply Pull.there)))))) ⟨none, 0, nb, rfl⟩
      exact fin1r rfl rfl ⟨rfl, _, _, hS.mutLp (by repeat (first | exact Pulls.nil | (apply Pulls.cons; focus (repeat (first | exact Pull.here | apply Pull.there)))))⟩
    · rw [if_neg h16] at hu
      cases hu
      have hwl1 := hwl.1
      clear hwl hne hwsm hr2 hn2 hk2
      repeat' (first
        | (show WL _ _ _ _ _ _ _; first
          | refine WL.pure rfl rfl rfl rfl ?_
          | refine WL.nil ?_
          | refine WL.load hS rfl rfl (LdOk.box (by repeat (first | exact List.Mem.head _ | apply List.Mem.tail)) rfl) rfl rfl rfl ?_
          | (refine WL.callL (D := [tbB Tp (some ⟨q, 0, none⟩) dir (some ⟨L, 0, none⟩) mr, rowsC mr rows, chgC A2 cap2 l]) hS (by repeat (first | exact Pulls.nil | (apply Pulls.cons; focus (repeat (first | exact Pull.here | apply Pull.there))))) rfl rfl (fun hI => apply_c hI hpl) rfl rfl rfl ?_; rintro v w ⟨rfl, hm⟩ hS; replace hS := hS _ hm; clear hm)
          | (refine WL.mmake hS rfl rfl rfl rfl rfl ?_; intro w nb hS)
          | (refine WL.callL (D := [lgC L q G1 fpl2]) hS (by repeat (first | exact Pulls.nil | (apply Pulls.cons; focus (repeat (first | exact Pull.here | apply Pull.there))))) rfl rfl (fun hI => records_c hI (by omega)) rfl rfl rfl ?_; rintro v w ⟨A4, cap4, rfl, hm⟩ hS; replace hS := hS _ hm; clear hm)
          | (refine WL.store hS rfl rfl rfl (by repeat (first | exact StB.here rfl | apply StB.there)) rfl rfl rfl ?_; intro w hS))
        | (show WC _ _ _ _ _ _; first
          | refine WC.seq ?_
          | refine WC.region ?_
          | refine WC.skip ?_
          | refine WC.exit ?_
          | refine WC.ret ?_
          | (show WC _ _ (Code.region _ (List.toArray [_, _, _, _, _, _, _, _, _, _, _]) true) _ _ _; refine WC.drawL [lgC L q G fpl, dkC q mb lb D] hS (by repeat (first | exact Pulls.nil | (apply Pulls.cons; focus (repeat (first | exact Pull.here | apply Pull.there))))) [0,1,2,3,4,5,6,7,10] [0,1,2,3,4,5,6,7,8,9,10] (by kernel_rfl) (by kernel_rfl) ?_; clear hS; intro w hS hM)
          | refine WC.condF rfl (by decide) ?_
          | refine WC.condF rfl (decide_eq_false (by first | with_reducible assumption | omega)) ?_)
        | (show WD _ _ _ _ _ _ _ _ _; first
          | refine WD.pure rfl rfl rfl rfl rfl ?_
          | refine WD.nil ?_
          | refine WD.load rfl rfl (LdOk.box (by repeat (first | exact List.Mem.head _ | apply List.Mem.tail)) rfl) rfl rfl rfl rfl ?_
          | (refine WD.calls hS hM rfl rfl (record_c l (St.ownSl (by decide) hS (by repeat (first | exact List.Mem.head _ | apply List.Mem.tail))) (by omega) hpl) rfl rfl rfl rfl rfl ?_; clear hS; rintro v w rfl hS)
          | (refine WD.callL (D := [lgC L q G fpl, dkC q mb lb D]) hS (by repeat (first | exact Pulls.nil | (apply Pulls.cons; focus (repeat (first | exact Pull.here | apply Pull.there))))) (.refl _ _) rfl rfl (fun hI => add_c (recordE l) hI hwa hlg hno.1 hr (by rw [Dk.step_at]; exact hno.at_ _) (by omega)) rfl rfl rfl rfl rfl ?_; rintro v w ⟨rfl, fpl2, hm⟩; refine ⟨_, hm, fun hS hM => ?_⟩; clear hm))
        | refine seqQ_n ?_
        | refine seqQ_x ?_
        | refine blkQ_hit rfl ?_
        | refine rndQ_x ?_)
      have hS := St.objClose (φ := tabφ Tp q ⟨dir, applyE rows l, G1⟩) (hS.pulls (D := [tbB Tp (some ⟨q, 0, none⟩) dir (some ⟨L, 0, none⟩) mr, rowsC mr (applyE rows l), lgC L q G1 fpl2]) (by repeat (first | exact Pulls.nil | (apply Pulls.cons; focus (repeat (first | exact Pull.here | apply Pull.there)))))) ⟨mr, L, fpl2, rfl⟩
      have hS := hS.nilRow 9 1
      have hS := St.objClose (φ := bchφ B (some ⟨Tp, 0, none⟩) []) (hS.pulls (D := [.box B 114 [.pointer (some ⟨Tp, 0, none⟩), .slice none 0 0, .map (some nb)], .own (.slice none 0 0) 9 1 0 [], mapC nb []]) (by repeat (first | exact Pulls.nil | (apply Pulls.cons; focus (repeat (first | exact Pull.here | apply Pull.there)))))) ⟨none, 0, nb, rfl⟩
      exact fin1r rfl rfl ⟨rfl, _, _, hS.mutLp (by repeat (first | exact Pulls.nil | (apply Pulls.cons; focus (repeat (first | exact Pull.here | apply Pull.there)))))⟩
end Go.Proofs.YtmofcalcdjoicaaGreatDoor

/- What is proved: a quiet disk on which a table lies: what the disk's calls make of it. Conditions: as each names them. -/
set_option linter.unusedSimpArgs false
set_option linter.unusedVariables false
namespace Go.Proofs.YtmofcalcdjoicaaGreatDoor
open Go Go.J Go.RowKit

abbrev sysP : List UInt8 := [115, 121, 115]
abbrev sysL : List UInt8 := [115, 121, 115, 47, 108, 111, 103]
abbrev sysLT : List UInt8 := [115, 121, 115, 47, 108, 111, 103, 95, 116]
abbrev sysB : List UInt8 := [115, 121, 115, 47, 98, 97, 115, 101]
abbrev sysBT : List UInt8 := [115, 121, 115, 47, 98, 97, 115, 101, 95, 116]
def sysF (p : List UInt8) : Prop := p = sysL ∨ p = sysLT ∨ p = sysB ∨ p = sysBT
theorem sysF_ok {p : List UInt8} (h : sysF p) : checkE p 6 = 0 ∧ deepE p = 2 ∧ parentE p = sysP ∧ p ≠ sysP := by
  rcases h with rfl | rfl | rfl | rfl
  all_goals exact ⟨by kernel_rfl, by kernel_rfl, by kernel_rfl, by decide⟩
/-- what stands at a path, or nothing -/
def Dk.get (D : Dk) (p : List UInt8) : Option It := mget D.items p
theorem Dk.at_get (D : Dk) (p : List UInt8) : D.at p = (D.get p).getD It0 := rfl
theorem Dk.has_get (D : Dk) (p : List UInt8) : D.has p = (D.get p).isSome := rfl
/-- a disk that is up and not armed, with the table's folder and files in it -/
structure Sys (D : Dk) : Prop where
  up : D.down = false
  calm : D.armed < 0
  lim : D.limits = []
  nd : (D.items.map Prod.fst).Nodup
  dir : (D.at sysP).dir = true
  has : D.has sysP = true
  files : ∀ p, sysF p → (D.at p).dir = false
theorem Dk.get_set (D : Dk) (p y : List UInt8) (x : It) : (D.set p x).get y = if y = p then some { x with stamp := IntKind.i64.wrap (D.stamps + 1) } else D.get y := mget_set _ _ _ _
theorem Dk.get_put (D : Dk) (p y : List UInt8) (x : It) : Dk.get { D with items := mset D.items p x } y = if y = p then some x else D.get y := mget_set _ _ _ _
theorem Dk.get_del (D : Dk) (h : (D.items.map Prod.fst).Nodup) (p y : List UInt8) : (D.del p).get y = if y = p then none else D.get y := mget_del _ h _ _
theorem Dk.get_step (D : Dk) (p : List UInt8) : D.step.get p = D.get p := by unfold Dk.get; rw [Dk.step_items]
section
variable {D : Dk}
theorem Sys.stepE (h : Sys D) : D.stepE = 0 := by
  have := h.calm
  unfold Dk.stepE
  rw [if_neg (by omega)]
theorem Sys.step_eq (h : Sys D) : D.step = { D with steps := IntKind.i64.wrap (D.steps + 1) } := by
  have := h.calm
  unfold Dk.step
  rw [if_neg (by omega), if_neg (by omega)]
theorem Sys.step (h : Sys D) : Sys D.step := by
  rw [h.step_eq]
  exact ⟨h.up, h.calm, h.lim, h.nd, h.dir, h.has, h.files⟩
theorem Sys.may (h : Sys D) {p : List UInt8} (hp : sysF p) : D.may p 1 = 0 := by
  obtain ⟨h1, h2, _, _⟩ := sysF_ok hp
  unfold Dk.may
  rw [h.up, if_neg (by decide), if_neg (fun hh => hh h1), if_neg (by rw [h2]; decide)]
theorem Sys.under (h : Sys D) {p : List UInt8} (hp : sysF p) : D.under p = true := by
  obtain ⟨_, h2, h3, _⟩ := sysF_ok hp
  unfold Dk.under
  rw [if_neg (by rw [h2]; decide), h3, h.dir]
theorem Sys.file (h : Sys D) {p : List UInt8} (hp : sysF p) (hh : D.has p = true) : D.file p = 0 := by
  unfold Dk.file
  rw [h.may hp, if_neg (fun hh => hh rfl), if_pos hh, h.files p hp, if_neg (by decide)]
theorem Sys.set (h : Sys D) {p : List UInt8} {x : It} (hp : sysF p) (hx : x.dir = false) : Sys (D.set p x) := by
  obtain ⟨_, _, _, hne⟩ := sysF_ok hp
  refine ⟨h.up, h.calm, h.lim, mset_nodup h.nd _ _, ?_, ?_, fun y hy => ?_⟩
  · rw [Dk.at_get, Dk.get_set, if_neg (Ne.symm hne)]; exact h.dir
  · rw [Dk.has_get, Dk.get_set, if_neg (Ne.symm hne)]; exact h.has
  · rw [Dk.at_get, Dk.get_set]
    by_cases e : y = p
    · rw [if_pos e]; exact hx
    · rw [if_neg e]; exact h.files y hy
theorem Sys.put (h : Sys D) {p : List UInt8} {x : It} (hp : sysF p) (hx : x.dir = false) : Sys { D with items := mset D.items p x } := by
  obtain ⟨_, _, _, hne⟩ := sysF_ok hp
  refine ⟨h.up, h.calm, h.lim, mset_nodup h.nd _ _, ?_, ?_, fun y hy => ?_⟩
  · rw [Dk.at_get, Dk.get_put, if_neg (Ne.symm hne)]; exact h.dir
  · rw [Dk.has_get, Dk.get_put, if_neg (Ne.symm hne)]; exact h.has
  · rw [Dk.at_get, Dk.get_put]
    by_cases e : y = p
    · rw [if_pos e]; exact hx
    · rw [if_neg e]; exact h.files y hy
theorem Sys.del (h : Sys D) {p : List UInt8} (hp : sysF p) : Sys (D.del p) := by
  obtain ⟨_, _, _, hne⟩ := sysF_ok hp
  refine ⟨h.up, h.calm, h.lim, mdel_nodup h.nd _, ?_, ?_, fun y hy => ?_⟩
  · rw [Dk.at_get, Dk.get_del _ h.nd, if_neg (Ne.symm hne)]; exact h.dir
  · rw [Dk.has_get, Dk.get_del _ h.nd, if_neg (Ne.symm hne)]; exact h.has
  · rw [Dk.at_get, Dk.get_del _ h.nd]
    by_cases e : y = p
    · rw [if_pos e]; rfl
    · rw [if_neg e]; exact h.files y hy
theorem Sys.append (h : Sys D) {p r : List UInt8} (hp : sysF p) (hh : D.has p = true) : (D.append p r).1 = 0 ∧ Sys (D.append p r).2 ∧ ∀ y, (D.append p r).2.get y = if y = p then some { D.at p with data := (D.at p).data ++ r, loose := true, stamp := IntKind.i64.wrap (D.stamps + 1) } else D.get y := by
  have e : D.append p r = (0, D.step.set p { D.at p with data := (D.at p).data ++ r, loose := true }) := by
    unfold Dk.append
    rw [h.file hp hh, if_neg (fun hh => hh rfl), h.stepE, if_neg (fun hh => hh rfl), Dk.step_at]
  rw [e]
  refine ⟨rfl, h.step.set hp (h.files p hp), fun y => ?_⟩
  rw [Dk.get_set, Dk.get_step, h.step_eq]
theorem Sys.sync (h : Sys D) {p : List UInt8} (hp : sysF p) (hh : D.has p = true) : (D.sync p).1 = 0 ∧ Sys (D.sync p).2 ∧ ∀ y, (D.sync p).2.get y = if y = p then some { D.at p with kept := (D.at p).data, loose := false, anew := false } else D.get y := by
  have e : D.sync p = (0, { D.step with items := mset D.step.items p { D.at p with kept := (D.at p).data, loose := false, anew := false } }) := by
    unfold Dk.sync
    rw [h.file hp hh, if_neg (fun hh => hh rfl), h.stepE, if_neg (fun hh => hh rfl), Dk.step_at]
  rw [e]
  refine ⟨rfl, h.step.put hp (h.files p hp), fun y => ?_⟩
  rw [Dk.get_put, Dk.get_step]
theorem Sys.write (h : Sys D) {p r : List UInt8} (hp : sysF p) : (D.write p r).1 = 0 ∧ Sys (D.write p r).2 ∧ ∀ y, (D.write p r).2.get y = if y = p then some { D.at p with data := r, loose := true, anew := true, stamp := IntKind.i64.wrap (D.stamps + 1) } else D.get y := by
  have e : D.write p r = (0, D.step.set p { D.at p with data := r, loose := true, anew := true }) := by
    unfold Dk.write
    rw [h.may hp, if_neg (fun hh => hh rfl), h.under hp, if_neg (by decide), h.files p hp, if_neg (by decide), h.stepE, if_neg (fun hh => hh rfl)]
  rw [e]
  refine ⟨rfl, h.step.set hp (h.files p hp), fun y => ?_⟩
  rw [Dk.get_set, Dk.get_step, h.step_eq]
theorem Sys.rename (h : Sys D) {p r : List UInt8} (hp : sysF p) (hr : sysF r) (hh : D.has p = true) : (D.rename p r).1 = 0 ∧ Sys (D.rename p r).2 ∧ ∀ y, (D.rename p r).2.get y = if y = r then some { D.at p with stamp := IntKind.i64.wrap (D.stamps + 1) } else if y = p then none else D.get y := by
  have e : D.rename p r = (0, (D.step.del p).set r (D.at p)) := by
    unfold Dk.rename
    rw [h.may hp, if_neg (fun hh => hh rfl), h.may hr, if_neg (fun hh => hh rfl), hh, h.under hr, if_neg (by simp), h.files p hp, h.files r hr, if_neg (by simp), h.stepE, if_neg (fun hh => hh rfl)]
  rw [e]
  refine ⟨rfl, (h.step.del hp).set hr (h.files p hp), fun y => ?_⟩
  rw [Dk.get_set, Dk.get_del _ h.step.nd, Dk.get_step]
  have : (D.step.del p).stamps = D.stamps := by rw [h.step_eq]; rfl
  rw [this]
theorem has_of_get {D : Dk} {p : List UInt8} {x : It} (h : D.get p = some x) : D.has p = true := by rw [Dk.has_get, h]; rfl
theorem at_of_get {D : Dk} {p : List UInt8} {x : It} (h : D.get p = some x) : D.at p = x := by rw [Dk.at_get, h]; rfl
/-- a file put in its place as a whole -/
theorem Sys.fill (h : Sys D) {p s : List UInt8} (hp : sysF p) (ht : sysF (p ++ [95, 116])) (hne : p ++ [95, 116] ≠ p) : (D.fill p s).1 = 0 ∧ Sys (D.fill p s).2 ∧ (∃ x, (D.fill p s).2.get p = some x ∧ x.dir = false ∧ x.data = s ∧ x.kept = s ∧ x.loose = false ∧ x.anew = false) ∧ (D.fill p s).2.get (p ++ [95, 116]) = none ∧ ∀ y, y ≠ p → y ≠ p ++ [95, 116] → (D.fill p s).2.get y = D.get y := by
  obtain ⟨w1, w2, w3⟩ := h.write (r := s) ht
  have g1 := w3 (p ++ [95, 116])
  rw [if_pos rfl] at g1
  obtain ⟨s1, s2, s3⟩ := w2.sync ht (has_of_get g1)
  have g2 := s3 (p ++ [95, 116])
  rw [if_pos rfl, at_of_get g1] at g2
  obtain ⟨r1, r2, r3⟩ := s2.rename ht hp (has_of_get g2)
  have e : D.fill p s = ((D.write (p ++ [95, 116]) s).2.sync (p ++ [95, 116])).2.rename (p ++ [95, 116]) p := by
    unfold Dk.fill
    rw [if_neg (fun hh => hh w1), if_neg (fun hh => hh s1)]
  rw [e]
  refine ⟨r1, r2, ⟨_, by rw [r3, if_pos rfl], ?_⟩, by rw [r3, if_neg hne, if_pos rfl], fun y h1 h2 => by rw [r3, if_neg h1, if_neg h2, s3, if_neg h2, w3, if_neg h2]⟩
  rw [at_of_get g2]
  exact ⟨h.files _ ht, rfl, rfl, rfl, rfl⟩
end
end Go.Proofs.YtmofcalcdjoicaaGreatDoor

/- What is proved: changes that were written are read back; rows by what they answer. Conditions: texts of bounded length. -/
set_option linter.unusedSimpArgs false
set_option linter.unusedVariables false
namespace Go.Proofs.YtmofcalcdjoicaaGreatDoor
open Go Go.J Go.RowKit

/-! ## written and read back -/
def normO (o : Chg) : Chg := if o.gone then ⟨o.key, [], true⟩ else o
structure SmO (o : Chg) : Prop where
  key : o.key.length < 9223372036854775808
  val : o.val.length < 9223372036854775808
theorem drop_app {α : Type} (a b : List α) : (a ++ b).drop a.length = b := by simp
theorem opE_rec (o : Chg) (t : List UInt8) (h : SmO o) : opE (recO o ++ t) = (normO o, (recO o).length, 0) := by
  obtain ⟨key, val, gone⟩ := o
  have hk := h.key
  have hv := h.val
  dsimp only at hk hv
  have p0 : putN 0 = [0] := putN_small (by decide)
  have p1 : putN 1 = [1] := putN_small (by decide)
  have hd : ∀ (c : UInt8) (r : List UInt8), ([c] ++ r).drop 1 = r := fun _ _ => rfl
  rcases gone with _ | _
  · have e : recO ⟨key, val, false⟩ ++ t = [1] ++ (putN key.length ++ (key ++ (putN val.length ++ (val ++ t)))) := by simp [recO, textE]
    have hu : uintE ([1] ++ (putN key.length ++ (key ++ (putN val.length ++ (val ++ t))))) = (1, 1, 0) := by
      have := uintE_put 1 (by omega) (putN key.length ++ (key ++ (putN val.length ++ (val ++ t))))
      rwa [p1] at this
    have h2 := rtextE_text key (putN val.length ++ (val ++ t)) hk
    have h3 := rtextE_text val t hv
    have hl : (recO ⟨key, val, false⟩).length = 1 + (key.length + (putN key.length).length) + (val.length + (putN val.length).length) := by simp [recO, textE]; omega
    rw [e, hl]
    rw [opE_put (x := key) (y := val) (v := key.length + (putN key.length).length) (z := val.length + (putN val.length).length) hu (by rw [hd]; exact h2) (by
      rw [show 1 + (key.length + (putN key.length).length) = ([1] ++ (putN key.length ++ key)).length by simp; omega, show [1] ++ (putN key.length ++ (key ++ (putN val.length ++ (val ++ t)))) = ([1] ++ (putN key.length ++ key)) ++ (putN val.length ++ (val ++ t)) by simp, drop_app]
      exact h3)]
    rfl
  · have e : recO ⟨key, val, true⟩ ++ t = [0] ++ (putN key.length ++ (key ++ t)) := by simp [recO, textE]
    have hu : uintE ([0] ++ (putN key.length ++ (key ++ t))) = (0, 1, 0) := by
      have := uintE_put 0 (by omega) (putN key.length ++ (key ++ t))
      rwa [p0] at this
    have h2 := rtextE_text key t hk
    have hl : (recO ⟨key, val, true⟩).length = 1 + (key.length + (putN key.length).length) := by simp [recO, textE]; omega
    rw [e, hl]
    rw [opE_gone (x := key) (v := key.length + (putN key.length).length) hu (by rw [hd]; exact h2)]
    rfl
theorem opsF_rec : ∀ (l : List Chg) (t : List UInt8), (∀ o ∈ l, SmO o) → opsF l.length (l.flatMap recO ++ t) = (l.map normO, (l.flatMap recO).length, 0)
  | [], t, _ => rfl
  | o :: l, t, h => by
    have ho := opE_rec o (l.flatMap recO ++ t) (h o (List.mem_cons_self ..))
    have ih := opsF_rec l t (fun x hx => h x (List.mem_cons_of_mem _ hx))
    rw [List.flatMap_cons, List.append_assoc, List.length_cons, opsF_s, ho, if_neg (fun h => h rfl)]
    dsimp only
    rw [drop_app, ih, if_neg (fun h => h rfl)]
    simp
/-- what was written is read -/
theorem opsE_record (l : List Chg) (h : ∀ o ∈ l, SmO o) (hl : l.length < 9223372036854775808) : opsE (recordE l) = (l.map normO, 0) := by
  have hu := uintE_put l.length hl (l.flatMap recO)
  have hf := opsF_rec l [] h
  rw [List.append_nil] at hf
  rw [opsE_of (show uintE (recordE l) = _ from hu)]
  rw [show recordE l = putN l.length ++ l.flatMap recO from rfl, drop_app, hf]
  unfold opsFin
  rw [if_neg (fun h => h rfl)]
  dsimp only
  rw [if_neg (by simp), List.nil_append]
/-- changes as a batch makes them -/
def Clean (l : List Chg) : Prop := ∀ o ∈ l, o.gone = true → o.val = []
theorem norm_clean {l : List Chg} (h : Clean l) : l.map normO = l := by
  have : ∀ o ∈ l, normO o = o := fun o ho => by
    unfold normO
    split
    · rename_i hg
      have := h o ho hg
      obtain ⟨k, v, g⟩ := o
      dsimp only at hg this
      subst hg this
      rfl
    · rfl
  rw [List.map_congr_left this, List.map_id']
/-! ## rows by what they answer -/
def setF (f : List UInt8 → Option (List UInt8)) (o : Chg) : List UInt8 → Option (List UInt8) := fun y => if y = o.key then (if o.gone then none else some o.val) else f y
def applyF (f : List UInt8 → Option (List UInt8)) (l : List Chg) : List UInt8 → Option (List UInt8) := l.foldl setF f
def RowsAre (rows : Rws) (f : List UInt8 → Option (List UInt8)) : Prop := (rows.map Prod.fst).Nodup ∧ ∀ k, mget rows k = f k
theorem RowsAre.nil : RowsAre [] fun _ => none := ⟨by simp, fun _ => rfl⟩
theorem RowsAre.one {rows : Rws} {f : List UInt8 → Option (List UInt8)} (h : RowsAre rows f) (o : Chg) : RowsAre (if o.gone then mdel rows o.key else mset rows o.key o.val) (setF f o) := by
  unfold setF
  split
  · refine ⟨mdel_nodup h.1 _, fun k => ?_⟩
    rw [mget_del _ h.1, h.2]
  · refine ⟨mset_nodup h.1 _ _, fun k => ?_⟩
    rw [mget_set, h.2]
theorem RowsAre.apply : ∀ {l : List Chg} {rows : Rws} {f : List UInt8 → Option (List UInt8)}, RowsAre rows f → RowsAre (applyE rows l) (applyF f l)
  | [], _, _, h => h
  | o :: l, rows, f, h => by
    rw [applyE_cons]
    exact RowsAre.apply (h.one o)
theorem keysE_perm {β : Type} (m : List (List UInt8 × β)) : (keysE m).Perm (m.map Prod.fst) := List.mergeSort_perm _ _
theorem mem_of_mget {rows : Rws} {k v : List UInt8} (h : mget rows k = some v) : (k, v) ∈ rows := mget_mem h
theorem mget_of_mem : ∀ {rows : Rws} {k v : List UInt8}, (rows.map Prod.fst).Nodup → (k, v) ∈ rows → mget rows k = some v
  | [], _, _, _, h => by cases h
  | (a, b) :: r, k, v, hn, h => by
    have hn' : a ∉ r.map Prod.fst ∧ (r.map Prod.fst).Nodup := by simpa using hn
    unfold mget
    rcases List.mem_cons.1 h with h | h
    · cases h; rw [if_pos rfl]
    · have : ¬ k = a := fun e => hn'.1 (by rw [← e]; exact List.mem_map_of_mem (f := Prod.fst) h)
      rw [if_neg this]
      exact mget_of_mem hn'.2 h
/-- the packed changes are the rows', in another order -/
theorem packL_perm {rows : Rws} (hn : (rows.map Prod.fst).Nodup) : (packL rows).Perm (rows.map fun p => (⟨p.1, p.2, false⟩ : Chg)) := by
  unfold packL
  refine ((keysE_perm rows).map _).trans ?_
  rw [List.map_map]
  have : ∀ p ∈ rows, (rowOp rows ∘ Prod.fst) p = (⟨p.1, p.2, false⟩ : Chg) := fun p hp => by
    show (⟨p.1, (mget rows p.1).getD [], false⟩ : Chg) = _
    rw [mget_of_mem hn hp]
    rfl
  rw [List.map_congr_left this]
theorem applyF_put : ∀ (l : List Chg) (f : List UInt8 → Option (List UInt8)), (∀ o ∈ l, o.gone = false) → (l.map (·.key)).Nodup → ∀ k, applyF f l k = match l.find? (fun o => decide (o.key = k)) with | some o => some o.val | none => f k
  | [], f, _, _, k => rfl
  | o :: l, f, hg, hn, k => by
    have hn' : o.key ∉ l.map (·.key) ∧ (l.map (·.key)).Nodup := by simpa using hn
    have ih := applyF_put l (setF f o) (fun x hx => hg x (List.mem_cons_of_mem _ hx)) hn'.2 k
    show applyF (setF f o) l k = _
    rw [ih, List.find?_cons]
    by_cases e : o.key = k
    · have hno : l.find? (fun o => decide (o.key = k)) = none := by
        rw [List.find?_eq_none]
        intro x hx h
        have hxk : x.key = k := by simpa using h
        exact hn'.1 (by rw [e, ← hxk]; exact List.mem_map_of_mem hx)
      rw [hno, decide_eq_true e]
      simp only [setF]
      rw [if_pos e.symm, hg o (List.mem_cons_self ..)]
      rfl
    · rw [decide_eq_false e]
      cases hf : l.find? (fun o => decide (o.key = k)) with
      | none => simp only [setF]; rw [if_neg (fun h => e h.symm)]
      | some x => rfl
theorem packL_gone (rows : Rws) : ∀ o ∈ packL rows, o.gone = false := fun o ho => by
  obtain ⟨k, _, rfl⟩ := List.mem_map.1 ho
  rfl
theorem packL_clean (rows : Rws) : Clean (packL rows) := fun o ho h => by rw [packL_gone rows o ho] at h; cases h
theorem packL_keys (rows : Rws) : (packL rows).map (·.key) = keysE rows := by unfold packL; rw [List.map_map]; exact List.map_id'' (fun _ => rfl) _
/-- rows that were packed and laid again -/
theorem packL_rows {rows : Rws} {f : List UInt8 → Option (List UInt8)} (h : RowsAre rows f) : ∀ k, applyF (fun _ => none) (packL rows) k = f k := by
  intro k
  have hnk : (keysE rows).Nodup := (keysE_perm rows).nodup_iff.2 h.1
  rw [applyF_put _ _ (packL_gone rows) (by rw [packL_keys]; exact hnk) k]
  have hfind : (packL rows).find? (fun o => decide (o.key = k)) = if k ∈ keysE rows then some (rowOp rows k) else none := by
    unfold packL
    generalize keysE rows = ks
    induction ks with
    | nil => rfl
    | cons a ks ih =>
      rw [List.map_cons, List.find?_cons]
      by_cases e : a = k
      · subst e
        have : decide ((rowOp rows a).key = a) = true := decide_eq_true rfl
        rw [this, if_pos (List.mem_cons_self ..)]
      · have : decide ((rowOp rows a).key = k) = false := decide_eq_false e
        rw [this]
        simp only
        rw [ih]
        by_cases hm : k ∈ ks
        · rw [if_pos hm, if_pos (List.mem_cons_of_mem _ hm)]
        · rw [if_neg hm, if_neg (fun h => by rcases List.mem_cons.1 h with h | h; exact e h.symm; exact hm h)]
  rw [hfind]
  by_cases hm : k ∈ keysE rows
  · rw [if_pos hm]
    have hm2 : k ∈ rows.map Prod.fst := (keysE_perm rows).mem_iff.1 hm
    obtain ⟨p, hp, he⟩ := List.mem_map.1 hm2
    have hg := mget_of_mem h.1 (show (k, p.2) ∈ rows by rw [← he]; exact hp)
    show some ((mget rows k).getD []) = f k
    rw [← h.2 k, hg]
    rfl
  · rw [if_neg hm]
    have hm2 : k ∉ rows.map Prod.fst := fun h => hm ((keysE_perm rows).mem_iff.2 h)
    rw [← h.2 k, mget_none.2 hm2]
/-! ## sizes -/
def szO (o : Chg) : Nat := o.key.length + o.val.length + 32
def szL (l : List Chg) : Nat := (l.map szO).sum
def szR (rows : Rws) : Nat := (rows.map fun p => p.1.length + p.2.length + 32).sum
theorem recO_len (o : Chg) (h : SmO o) : (recO o).length ≤ szO o := by
  have h1 := putN_len10 (n := o.key.length) (by have := h.key; omega)
  have h2 := putN_len10 (n := o.val.length) (by have := h.val; omega)
  unfold recO szO
  split
  · simp [textE]; omega
  · simp [textE]; omega
theorem recordE_len (l : List Chg) (h : ∀ o ∈ l, SmO o) (hl : l.length < 9223372036854775808) : (recordE l).length ≤ 10 + szL l := by
  have h1 := putN_len10 (n := l.length) (by omega)
  have h2 : ∀ l : List Chg, (∀ o ∈ l, SmO o) → (l.flatMap recO).length ≤ szL l := by
    intro l
    induction l with
    | nil => intro _; simp
    | cons o l ih =>
      intro h
      have a := recO_len o (h o (List.mem_cons_self ..))
      have b := ih fun x hx => h x (List.mem_cons_of_mem _ hx)
      simp only [List.flatMap_cons, List.length_append, szL, List.map_cons, List.sum_cons] at b ⊢
      omega
  have := h2 l h
  unfold recordE
  rw [List.length_append]
  omega
theorem szL_len (l : List Chg) : 32 * l.length ≤ szL l := by
  induction l with
  | nil => simp
  | cons o l ih => simp only [szL, List.map_cons, List.sum_cons, List.length_cons, szO] at ih ⊢; omega
theorem szL_mem {l : List Chg} {o : Chg} (h : o ∈ l) : szO o ≤ szL l := by
  induction l with
  | nil => cases h
  | cons x l ih =>
    simp only [szL, List.map_cons, List.sum_cons] at ih ⊢
    rcases List.mem_cons.1 h with rfl | h
    · omega
    · have := ih h; omega
theorem szR_len (rows : Rws) : 32 * rows.length ≤ szR rows := by
  induction rows with
  | nil => simp
  | cons o l ih => simp only [szR, List.map_cons, List.sum_cons, List.length_cons] at ih ⊢; omega
theorem szR_mem {rows : Rws} {p : List UInt8 × List UInt8} (h : p ∈ rows) : p.1.length + p.2.length + 32 ≤ szR rows := by
  induction rows with
  | nil => cases h
  | cons x l ih =>
    simp only [szR, List.map_cons, List.sum_cons] at ih ⊢
    rcases List.mem_cons.1 h with rfl | h
    · omega
    · have := ih h; omega
theorem szR_set (rows : Rws) (k v : List UInt8) : szR (mset rows k v) ≤ szR rows + (k.length + v.length + 32) := by
  induction rows with
  | nil => simp [mset, szR]
  | cons p r ih =>
    obtain ⟨a, u⟩ := p
    unfold mset
    split
    · rename_i h; subst h; simp only [szR, List.map_cons, List.sum_cons]; omega
    · simp only [szR, List.map_cons, List.sum_cons] at ih ⊢; omega
theorem szR_del (rows : Rws) (k : List UInt8) : szR (mdel rows k) ≤ szR rows := by
  induction rows with
  | nil => simp [mdel]
  | cons p r ih =>
    obtain ⟨a, u⟩ := p
    unfold mdel
    split
    · simp only [szR, List.map_cons, List.sum_cons]; omega
    · simp only [szR, List.map_cons, List.sum_cons] at ih ⊢; omega
theorem szR_apply : ∀ (l : List Chg) (rows : Rws), szR (applyE rows l) ≤ szR rows + szL l
  | [], rows => by simp [applyE, szL]
  | o :: l, rows => by
    rw [applyE_cons]
    have h := szR_apply l (if o.gone then mdel rows o.key else mset rows o.key o.val)
    have h2 : szR (if o.gone then mdel rows o.key else mset rows o.key o.val) ≤ szR rows + szO o := by
      split
      · exact Nat.le_trans (szR_del _ _) (Nat.le_add_right _ _)
      · exact szR_set _ _ _
    simp only [szL, List.map_cons, List.sum_cons] at h ⊢
    omega
theorem szL_perm {l l' : List Chg} (h : l.Perm l') : szL l = szL l' := (h.map szO).sum_nat
theorem szL_pack {rows : Rws} (hn : (rows.map Prod.fst).Nodup) : szL (packL rows) = szR rows := by
  rw [szL_perm (packL_perm hn)]
  unfold szL szR
  rw [List.map_map]
  rfl
theorem smO_of {l : List Chg} (h : szL l < 9223372036854775808) : ∀ o ∈ l, SmO o := fun o ho => by
  have := szL_mem ho
  unfold szO at this
  exact ⟨by omega, by omega⟩
end Go.Proofs.YtmofcalcdjoicaaGreatDoor

/- What is proved: a quiet disk with a table: opened, committed to, packed. Conditions: texts and lists of bounded length. -/
set_option linter.unusedSimpArgs false
set_option linter.unusedVariables false
namespace Go.Proofs.YtmofcalcdjoicaaGreatDoor
open Go Go.J Go.RowKit

/-- a file with these bytes, all sure -/
def Kept (D : Dk) (p s : List UInt8) : Prop := ∃ x, D.get p = some x ∧ x.dir = false ∧ x.data = s ∧ x.kept = s ∧ x.loose = false ∧ x.anew = false
def baseIs (D : Dk) : Option (List Chg) → Prop
  | none => D.get sysB = none
  | some ops => Kept D sysB (packE (recordE ops))
/-- a disk with a table of a base and a journal -/
structure TabSt (D : Dk) (bs : Option (List Chg)) (ls : List (List Chg)) : Prop where
  sys : Sys D
  log : Kept D sysL (frames (ls.map recordE))
  base : baseIs D bs
/-- sizes that a law's bound leaves -/
structure TabWf (bs : Option (List Chg)) (ls : List (List Chg)) : Prop where
  few : ls.length < 16
  clean : ∀ l ∈ ls, Clean l
  small : ∀ l ∈ ls, szL l ≤ 1073000000
  bclean : Clean (bs.getD [])
  bsmall : szL (bs.getD []) ≤ 274877906944
def rowsOf (bs : Option (List Chg)) (ls : List (List Chg)) : Rws := ls.foldl applyE (applyE [] (bs.getD []))
def rowsF (bs : Option (List Chg)) (ls : List (List Chg)) : List UInt8 → Option (List UInt8) := ls.foldl applyF (applyF (fun _ => none) (bs.getD []))
theorem rowsAre_fold : ∀ {ls : List (List Chg)} {rows : Rws} {f : List UInt8 → Option (List UInt8)}, RowsAre rows f → RowsAre (ls.foldl applyE rows) (ls.foldl applyF f)
  | [], _, _, h => h
  | l :: ls, _, _, h => rowsAre_fold (ls := ls) h.apply
theorem rowsOf_are (bs : Option (List Chg)) (ls : List (List Chg)) : RowsAre (rowsOf bs ls) (rowsF bs ls) := rowsAre_fold RowsAre.nil.apply
theorem szR_fold : ∀ (ls : List (List Chg)) (rows : Rws) (C : Nat), (∀ l ∈ ls, szL l ≤ C) → szR (ls.foldl applyE rows) ≤ szR rows + ls.length * C
  | [], rows, C, _ => by simp
  | l :: ls, rows, C, h => by
    have h1 := szR_fold ls (applyE rows l) C fun x hx => h x (List.mem_cons_of_mem _ hx)
    have h2 := szR_apply l rows
    have h3 := h l (List.mem_cons_self ..)
    simp only [List.foldl_cons, List.length_cons, Nat.add_mul]
    omega
theorem TabWf.rows {bs : Option (List Chg)} {ls : List (List Chg)} (h : TabWf bs ls) : szR (rowsOf bs ls) ≤ 274877906944 + 17168000000 := by
  have h1 := szR_fold ls (applyE [] (bs.getD [])) 1073000000 h.small
  have h2 := szR_apply (bs.getD []) []
  have h3 := h.bsmall
  have h4 : ls.length * 1073000000 ≤ 16 * 1073000000 := Nat.mul_le_mul_right _ (by have := h.few; omega)
  have h5 : szR ([] : Rws) = 0 := rfl
  unfold rowsOf
  omega
theorem replay_recs : ∀ (ls : List (List Chg)) (rows : Rws), (∀ l ∈ ls, Clean l) → (∀ l ∈ ls, szL l ≤ 1073000000) → replay rows (ls.map recordE) = (0, ls.foldl applyE rows)
  | [], rows, _, _ => rfl
  | l :: ls, rows, hc, hs => by
    have h1 := hs l (List.mem_cons_self ..)
    have h2 := szL_len l
    have ho := opsE_record l (smO_of (by omega)) (by omega)
    rw [norm_clean (hc l (List.mem_cons_self ..))] at ho
    rw [List.map_cons, replay_cons, ho, if_neg (fun h => h rfl)]
    exact replay_recs ls _ (fun x hx => hc x (List.mem_cons_of_mem _ hx)) (fun x hx => hs x (List.mem_cons_of_mem _ hx))
theorem rec_small {l : List Chg} (h : szL l ≤ 1073000000) : (recordE l).length ≤ 1073741824 := by
  have h2 := szL_len l
  have := recordE_len l (smO_of (by omega)) (by omega)
  omega
theorem frames_len : ∀ (rs : List (List UInt8)) (C : Nat), (∀ r ∈ rs, r.length ≤ C) → C < 9223372036854775808 → (frames rs).length ≤ rs.length * (C + 14)
  | [], C, _, _ => by simp [frames]
  | r :: rs, C, h, hC => by
    have h1 := frames_len rs C (fun x hx => h x (List.mem_cons_of_mem _ hx)) hC
    have h2 := h r (List.mem_cons_self ..)
    have h3 := packE_len r
    have h4 := putN_len10 (n := r.length) (by omega)
    simp only [frames, List.flatMap_cons, List.length_append, List.length_cons, Nat.add_mul] at h1 ⊢
    omega
theorem readE_pack0 (s : List UInt8) (h : s.length < 9223372036854775808) : readE (packE s) = (s, (packE s).length, 0) := by
  have := readE_pack s [] h
  rwa [List.append_nil] at this
section
variable {D : Dk} {bs : Option (List Chg)} {ls : List (List Chg)}
theorem Kept.has {p s : List UInt8} (h : Kept D p s) : D.has p = true := by obtain ⟨x, h1, _⟩ := h; exact has_of_get h1
theorem Kept.data {p s : List UInt8} (h : Kept D p s) : (D.at p).data = s ∧ (D.at p).dir = false := by
  obtain ⟨x, h1, h2, h3, _⟩ := h
  rw [at_of_get h1]
  exact ⟨h3, h2⟩
theorem Kept.read {p s : List UInt8} (h : Kept D p s) (hs : Sys D) : D.read p = (s, 0) := by
  obtain ⟨h1, h2⟩ := h.data
  unfold Dk.read
  rw [hs.up, if_neg (by decide), h.has, if_neg (by decide), h2, if_neg (by decide), h1]
theorem Kept.kind {p s : List UInt8} (h : Kept D p s) : D.kind p = 2 := by
  obtain ⟨h1, h2⟩ := h.data
  unfold Dk.kind
  rw [h.has, if_pos rfl, h2, if_neg (by decide)]
theorem Sys.kindP (h : Sys D) : D.kind sysP = 1 := by
  unfold Dk.kind
  rw [h.has, if_pos rfl, h.dir, if_pos rfl]
theorem TabSt.walOpen (h : TabSt D bs ls) (hw : TabWf bs ls) : walOpen D sysL = (0, some ⟨sysL, ls.map recordE, false⟩, D) := by
  have hrs : ∀ r ∈ ls.map recordE, r.length < 9223372036854775808 := fun r hr => by
    obtain ⟨l, hl, rfl⟩ := List.mem_map.1 hr
    have := rec_small (hw.small l hl)
    omega
  unfold Go.Proofs.YtmofcalcdjoicaaGreatDoor.walOpen
  rw [h.log.kind, if_neg (by decide), h.log.read h.sys]
  dsimp only
  rw [if_neg (fun h => h rfl), scanE_whole _ hrs]
  rfl
theorem TabSt.open (h : TabSt D bs ls) (hw : TabWf bs ls) : tabOpen D sysP = (0, some ⟨sysP, rowsOf bs ls, ⟨sysL, ls.map recordE, false⟩⟩, D) := by
  have hmk : tabMk D sysP = (0, D) := by unfold tabMk; rw [h.sys.kindP, if_neg (by decide)]
  have hwo := h.walOpen hw
  have hb : tabBase D sysP = (0, applyE [] (bs.getD [])) := by
    have hbp : baseP sysP = sysB := rfl
    unfold tabBase
    rw [hbp]
    have hbase := h.base
    cases bs with
    | none =>
      have hbase : D.get sysB = none := hbase
      have hk : D.kind sysB = 0 := by unfold Dk.kind; rw [Dk.has_get, hbase]; rfl
      rw [if_pos hk]
      rfl
    | some ops =>
      have hbase : Kept D sysB (packE (recordE ops)) := hbase
      have hsm : szL ops ≤ 274877906944 := hw.bsmall
      have hl := szL_len ops
      have hrl := recordE_len ops (smO_of (by omega)) (by omega)
      have ho := opsE_record ops (smO_of (by omega)) (by omega)
      rw [norm_clean (show Clean ops from hw.bclean)] at ho
      rw [hbase.kind, if_neg (by decide)]
      unfold tabLoad
      rw [hbp, hbase.read h.sys]
      dsimp only
      rw [if_neg (fun h => h rfl), readE_pack0 _ (by omega)]
      dsimp only
      rw [if_neg (fun h => h rfl), if_neg (Nat.lt_irrefl _), ho]
      dsimp only
      rw [if_neg (fun h => h rfl)]
      rfl
  unfold tabOpen
  rw [hmk]
  dsimp only
  rw [if_neg (fun h => h rfl), hb]
  dsimp only
  rw [if_neg (fun h => h rfl), show logP sysP = sysL from rfl, hwo]
  unfold tabLog
  dsimp only
  rw [replay_recs ls _ hw.clean hw.small, if_neg (fun h => h rfl)]
  rfl
theorem sysF_L : sysF sysL := .inl rfl
theorem sysF_LT : sysF sysLT := .inr (.inl rfl)
theorem sysF_B : sysF sysB := .inr (.inr (.inl rfl))
theorem sysF_BT : sysF sysBT := .inr (.inr (.inr rfl))
theorem Sys.walAdd (h : Sys D) {s : List UInt8} (hk : Kept D sysL s) (recs : List (List UInt8)) (dmg : Bool) (r : List UInt8) :
    ∃ D', walAdd ⟨sysL, recs, dmg⟩ D r = (0, ⟨sysL, recs ++ [r], dmg⟩, D') ∧ Sys D' ∧ Kept D' sysL (s ++ packE r) ∧ ∀ y, y ≠ sysL → D'.get y = D.get y := by
  obtain ⟨a1, a2, a3⟩ := h.append (r := packE r) sysF_L hk.has
  have g1 := a3 sysL
  rw [if_pos rfl] at g1
  obtain ⟨s1, s2, s3⟩ := a2.sync sysF_L (has_of_get g1)
  have g2 := s3 sysL
  rw [if_pos rfl, at_of_get g1] at g2
  obtain ⟨d1, d2⟩ := hk.data
  refine ⟨((D.append sysL (packE r)).2.sync sysL).2, ?_, s2, ⟨_, g2, d2, by rw [← d1], by rw [← d1], rfl, rfl⟩, fun y hy => by rw [s3, if_neg hy, a3, if_neg hy]⟩
  unfold Go.Proofs.YtmofcalcdjoicaaGreatDoor.walAdd
  dsimp only
  rw [if_neg (fun hh => hh a1), if_neg (fun hh => hh s1)]
  rfl
theorem baseIs_same {D D' : Dk} (h : D'.get sysB = D.get sysB) {bs : Option (List Chg)} (hb : baseIs D bs) : baseIs D' bs := by
  cases bs with
  | none => exact h.trans hb
  | some ops => obtain ⟨x, h1, h2⟩ := hb; exact ⟨x, h.trans h1, h2⟩
theorem TabSt.pack (h : Sys D) (rows : Rws) (recs : List (List UInt8)) (dmg : Bool) : ∃ D', tabPack ⟨sysP, rows, ⟨sysL, recs, dmg⟩⟩ D = (0, ⟨sysP, rows, ⟨sysL, [], dmg⟩⟩, D') ∧ TabSt D' (some (packL rows)) [] := by
  obtain ⟨f1, f2, f3, f4, f5⟩ := h.fill (p := sysB) (s := packE (recordE (packL rows))) sysF_B sysF_BT (by decide)
  obtain ⟨g1, g2, g3, g4, g5⟩ := f2.fill (p := sysL) (s := []) sysF_L sysF_LT (by decide)
  refine ⟨_, ?_, ⟨g2, g3, ?_⟩⟩
  · unfold tabPack
    dsimp only
    rw [show baseP sysP = sysB from rfl, if_neg (fun hh => hh f1), g1]
    rfl
  · obtain ⟨x, h1, h2⟩ := f3
    exact ⟨x, by rw [g5 sysB (by decide) (by decide)]; exact h1, h2⟩
theorem map_snoc (ls : List (List Chg)) (ops : List Chg) : ls.map recordE ++ [recordE ops] = (ls ++ [ops]).map recordE := by simp
theorem TabSt.commit (h : TabSt D bs ls) (rows : Rws) (ops : List Chg) (hne : ops ≠ []) (hf : ls.length < 15) :
    ∃ D', tabCommit ⟨sysP, rows, ⟨sysL, ls.map recordE, false⟩⟩ D ops = (0, ⟨sysP, applyE rows ops, ⟨sysL, (ls ++ [ops]).map recordE, false⟩⟩, D') ∧ TabSt D' bs (ls ++ [ops]) := by
  obtain ⟨D', hwa, hs, hk, hg⟩ := h.sys.walAdd h.log (ls.map recordE) false (recordE ops)
  refine ⟨D', ?_, hs, ?_, baseIs_same (hg _ (by decide)) h.base⟩
  · unfold tabCommit
    dsimp only
    rw [if_neg hne, hwa]
    dsimp only
    rw [if_neg (fun hh => hh rfl), if_neg (by simp; omega), map_snoc]
  · rw [← map_snoc, frames_app, frames_one]
    exact hk
theorem TabSt.commit16 (h : TabSt D bs ls) (rows : Rws) (ops : List Chg) (hne : ops ≠ []) (hf : ls.length = 15) :
    ∃ D', tabCommit ⟨sysP, rows, ⟨sysL, ls.map recordE, false⟩⟩ D ops = (0, ⟨sysP, applyE rows ops, ⟨sysL, [], false⟩⟩, D') ∧ TabSt D' (some (packL (applyE rows ops))) [] := by
  obtain ⟨D1, hwa, hs, hk, hg⟩ := h.sys.walAdd h.log (ls.map recordE) false (recordE ops)
  obtain ⟨D2, hp, ht⟩ := TabSt.pack hs (applyE rows ops) (ls.map recordE ++ [recordE ops]) false
  refine ⟨D2, ?_, ht⟩
  unfold tabCommit
  dsimp only
  rw [if_neg hne, hwa]
  dsimp only
  rw [if_neg (fun hh => hh rfl), if_pos (by simp; omega), hp]
end
/-- a new disk's table -/
def Dt0 : Dk := ⟨[(sysP, { It0 with dir := true }), (sysL, ⟨false, [], [], false, false, 2⟩)], [], 4, 2, -1, false⟩
theorem open_first : tabOpen Dk0 sysP = (0, some ⟨sysP, [], ⟨sysL, [], false⟩⟩, Dt0) := by kernel_rfl
theorem Dt0_st : TabSt Dt0 none [] := by
  refine ⟨⟨rfl, by decide, rfl, by decide, by kernel_rfl, by kernel_rfl, fun p hp => ?_⟩, ⟨⟨false, [], [], false, false, 2⟩, by kernel_rfl, rfl, rfl, rfl, rfl, rfl⟩, (show Dt0.get sysB = none by kernel_rfl)⟩
  rcases hp with rfl | rfl | rfl | rfl
  all_goals kernel_rfl
theorem wf0 : TabWf none [] := ⟨by decide, by simp, by simp, fun o ho => by simp at ho, by decide⟩
theorem Dk0_sm {B : Nat} : Dk0.Sm B := ⟨rfl, by simp [Dk0]⟩
theorem sm_of {D : Dk} {B : Nat} (h : D.Sm B) : D.Sm B := h
end Go.Proofs.YtmofcalcdjoicaaGreatDoor

/- What is proved: an argument that the form reads as data reads as plain data through the codecs, and how its bulk bounds it. Conditions: none. -/
set_option linter.unusedSimpArgs false
set_option linter.unusedVariables false
namespace Go.Proofs.YtmofcalcdjoicaaGreatDoor
open Go Go.J Go.RowKit Go.ChangeShapes Go.WideShapes Go.Deep

def Opens {α : Type} (P : Program) (t : TypeId) (c : Cod α) (Q : α → Nat → Prop) : Prop :=
  ∀ {H : Type} (enc : TypeId × Value → H) (W : World) (fuel : Nat) (cs : List Value) (x : DataW H × List MemPlace), DataW.trod enc P W 0 (fun _ => true) true fuel t cs = some x → ∃ y, c.rd (Old W) W cs y ∧ Q y (Rows.uptoBulk x.1)
def QL {α : Type} (Q : α → Nat → Prop) (ys : List α) (b : Nat) : Prop := ∃ bs : List Nat, bs.length = ys.length ∧ (∀ i (h : i < ys.length) (h' : i < bs.length), Q ys[i] bs[i]) ∧ bs.sum + 1 ≤ b

theorem bulkAll_sum {H : Type} (l : List (DataW H)) : Rows.uptoBulkAll l = (l.map Rows.uptoBulk).sum := by
  induction l with
  | nil => simp [Rows.uptoBulkAll]
  | cons d l ih => simp [Rows.uptoBulkAll, ih]

theorem Opens.int {P : Program} {t : TypeId} (ht : P.underlying t = some (.int .i64)) : Opens P t cInt (fun n b => -9223372036854775808 ≤ n ∧ n ≤ 9223372036854775807 ∧ 1 ≤ b) := by
  intro H enc W fuel cs x h
  obtain ⟨n, rfl, rfl, hw⟩ := DataW.trod_int ht h
  refine ⟨n, rfl, ?_⟩
  have h1 := bounds_i64 hw
  exact ⟨h1.1, h1.2, by simp [Rows.uptoBulk]⟩
theorem Opens.str {P : Program} {t : TypeId} (ht : P.underlying t = some .string) : Opens P t cStr (fun s b => s.length + 1 ≤ b) := by
  intro H enc W fuel cs x h
  obtain ⟨s, rfl, rfl, hw⟩ := DataW.trod_string ht h
  exact ⟨s.data.toList, rfl, by simp [Rows.uptoBulk]⟩
theorem Opens.slice {α : Type} [Inhabited α] {P : Program} {t e : TypeId} {c : Cod α} {Q : α → Nat → Prop} (ht : P.underlying t = some (.slice e)) (he : P.cellsOf e = c.sz) (hs : 0 < c.sz) (ho : Opens P e c Q) : Opens P t (cSl c) (QL Q) := by
  intro H enc W fuel cs x h
  rcases open_slice ht h with ⟨rfl, rfl⟩ | ⟨a, len, cap, m, n, D, Pl, rfl, hb, hl, hm, hmm, rfl, hx⟩
  · exact ⟨[], ⟨none, 0, rfl, Nat.le_refl _, fun k hk => absurd hk (by simp)⟩, [], rfl, fun i h => absurd h (by simp), by simp [Rows.uptoBulk]⟩
  · have hml : len ≤ m := by rw [hmm]; simp; omega
    have key : ∀ i, i < len → ∃ y : α, (∃ es, c.rd (Old W) W es y ∧ (a.add (i * c.sz)).block < W.heap.size ∧ (∀ j v, es[j]? = some v → W.cell? ((a.add (i * c.sz)).add j) = some v)) ∧ Q y (Rows.uptoBulk (D i)) := by
      intro i hi
      obtain ⟨cs', hc, htr⟩ := hx i (by omega)
      rw [he] at hc
      obtain ⟨y, hy, hq⟩ := ho enc W n cs' _ htr
      obtain ⟨_, hlen, hat⟩ := World.cells?_some hc
      refine ⟨y, ⟨cs', hy, ?_, fun j v hv => ?_⟩, hq⟩
      · have h0 := hat 0 hs
        have hlt : 0 < cs'.length := by omega
        rw [List.getElem?_eq_getElem hlt] at h0
        have hlt' := World.block_lt_of_cell? W _ h0
        have e0 : ((a.add (i * c.sz)).add 0).block = (a.add (i * c.sz)).block := by simp [Addr.add]
        rwa [e0] at hlt'
      · have hj : j < cs'.length := (List.getElem?_eq_some_iff.1 hv).1
        rw [hat j (by omega)]; exact hv
    obtain ⟨Y, hY⟩ := choose_lt key
    have hspot : 0 < len → a.spot = none := fun h0 => by
      obtain ⟨es, hrd, hbl, hc⟩ := (hY 0 h0).1
      have hl := c.len hrd
      have h1 := hc 0 es[0] (List.getElem?_eq_getElem (by omega))
      have e : (a.add (0 * c.sz)).add 0 = a := by simp [Addr.add]
      rw [e] at h1
      unfold World.cell? at h1
      cases hsp : a.spot with
      | none => rfl
      | some s => simp [hsp] at h1; split at h1 <;> simp at h1
    refine ⟨(List.range len).map Y, ⟨some a, cap, by simp, by simpa using hl, fun k hk => ?_⟩, (List.range len).map fun i => Rows.uptoBulk (D i), by simp, fun i h h' => ?_, ?_⟩
    · have hk' : k < len := by simpa using hk
      obtain ⟨es, hrd, hbl, hc⟩ := (hY k hk').1
      have ha : a = ⟨a.block, a.off, none⟩ := by rw [← hspot (by omega)]
      refine ⟨a.block, a.off, es, by rw [← ha], ?_, fun j v hv => ?_, by simpa using hrd⟩
      · have : (a.add (k * c.sz)).block = a.block := by unfold Addr.add; split <;> rfl
        rw [this] at hbl; exact hbl
      · have := hc j v hv
        rw [Go.Deep.add_add, ha, Addr.add_mid] at this
        rw [← Nat.add_assoc] at this
        exact this
    · have hi : i < len := by simpa using h
      simpa using (hY i hi).2
    · simp only [Rows.uptoBulk, bulkAll_sum, List.map_map]
      have : ((List.range len).map (Rows.uptoBulk ∘ D)) = (List.range len).map fun i => Rows.uptoBulk (D i) := rfl
      rw [this]
      omega
section
variable {H : Type} {enc : TypeId × Value → H} {P : Program}
theorem post_of_below {f : Func} {s : ChangeSpec} {apart fresh handsOn again : Bool} {W W' : World} {args : Array Value} {v : Value} {ds gs : List (DataW H)} {before pa pv : List MemPlace}
    (hW : DataW.Whole enc P f.params.toList s.vars apart W args.toList ds gs before)
    (hres : ∀ (b : Nat) (sp : Nat → Bool) (hd : Bool), DataW.TrodAll enc P W' b sp hd f.resultTypes.toList (v.resultList f.resultTypes.size) (s.fn H (ds ++ gs)).results [])
    (hargs : ∀ sp : Nat → Bool, (∀ p ∈ before, sp p.block = true) → DataW.TrodAll enc P W' 0 sp true f.params.toList args.toList (s.fn H (ds ++ gs)).args pa)
    (hvars : ∀ sp : Nat → Bool, (∀ p ∈ before, sp p.block = true) → DataW.TrodVars enc P W' sp s.vars (s.fn H (ds ++ gs)).vars pv)
    (hps : before = pa ++ pv) (hb : Below W.heap.size W W')
    (hok : ∀ (j : Nat) (t : TypeId) (r : Value), f.resultTypes[j]? = some t → (v.resultList f.resultTypes.size)[j]? = some r → Value.okWide P W' .any 0 t r) :
    s.post enc P f apart fresh handsOn again W args v W' := by
  have hlt : ∀ p ∈ before, p.block < W.heap.size := fun p hp => hW.lt p hp
  have hold : ∀ p ∈ before, (fun b => decide (b < W.heap.size)) p.block = true := fun p hp => by simpa using hlt p hp
  refine ⟨ds, gs, before, [], pa, pv, hW, hres _ _ _, hargs _ hold, hvars _ hold, World.keptBut_mono (fun p hp => ⟨hp, ?_⟩) (hb.frame (· ∈ before)), fun _ => ?_⟩
  · rw [hps, List.mem_append] at hp
    exact Or.inr hp
  · obtain ⟨_, _, _, _, _, hz, hn⟩ := hW
    refine ⟨hok, _, _, ([] ++ pa) ++ pv, ⟨[] ++ pa, pv, trodAll_append (hargs _ (fun _ _ => rfl)) (hres _ _ _), hvars _ (fun _ _ => rfl), rfl, ?_, ?_⟩, ?_⟩
    · intro b off hp
      have hin : MemPlace.cell b off ∈ before := by rw [hps]; simpa using hp
      rw [hb.frozen (hlt _ hin)]
      exact hz b off hin
    · intro ha
      have := hn ha
      rw [hps] at this
      simpa using this
    · intro p hp _
      rw [hps]
      simpa using hp
end
end Go.Proofs.YtmofcalcdjoicaaGreatDoor

/- What is proved: how a statement's arguments open to plain data, and that a call which answers true and leaves old memory alone meets the law's form. Conditions: none. -/
set_option linter.unusedSimpArgs false
set_option linter.unusedVariables false
namespace Go.Proofs.YtmofcalcdjoicaaGreatDoor
open Go Go.J Go.RowKit Go.ChangeShapes Go.WideShapes Go.ChangeAt Go.Deep

/-- how an argument of a type opens -/
def Arg {α : Type} (P : Program) (t : TypeId) (A : World → Value → α → Prop) (Q : α → Nat → Prop) : Prop :=
  ∀ {H : Type} (enc : TypeId × Value → H) (W : World) (base : Nat) (v : Value) (d : DataW H) (p : List MemPlace), Value.okWide P W .any base t v → DataW.Trod enc P W 0 (fun _ => true) true t v d p → ∃ y, A W v y ∧ Q y (Rows.uptoBulk d)

def AInt (_ : World) (v : Value) (n : Int) : Prop := v = .int .i64 n
def QInt (n : Int) (b : Nat) : Prop := -9223372036854775808 ≤ n ∧ n ≤ 9223372036854775807 ∧ 1 ≤ b
def AStr (_ : World) (v : Value) (s : List UInt8) : Prop := v = str s
def QStr (s : List UInt8) (b : Nat) : Prop := s.length + 1 ≤ b
def ASl {α : Type} (c : Cod α) (W : World) (v : Value) (xs : List α) : Prop := ∃ A cap, v = .slice A xs.length cap ∧ xs.length ≤ cap ∧ SlAt c (Old W) W A xs
def AAgg {α : Type} (c : Cod α) (W : World) (v : Value) (y : α) : Prop := ∃ cs, v = .agg ⟨cs⟩ ∧ c.rd (Old W) W cs y

theorem Arg.int {P : Program} {t : TypeId} (ht : P.underlying t = some (.int .i64)) : Arg P t AInt QInt := by
  intro H enc W base v d p hk hd
  obtain ⟨n, rfl⟩ := okWide_int ht hk
  obtain ⟨fuel, hf⟩ := hd
  obtain ⟨y, hy, hq⟩ := Opens.int ht enc W fuel _ _ hf
  have hy' : [Value.int .i64 n] = [.int .i64 y] := hy
  simp only [List.cons.injEq, Value.int.injEq, true_and, and_true] at hy'
  exact ⟨y, by rw [hy']; rfl, hq⟩
theorem Arg.str {P : Program} {t : TypeId} (ht : P.underlying t = some .string) : Arg P t AStr QStr := by
  intro H enc W base v d p hk hd
  obtain ⟨s, rfl⟩ := okWide_string ht hk
  obtain ⟨fuel, hf⟩ := hd
  obtain ⟨y, hy, hq⟩ := Opens.str ht enc W fuel _ _ hf
  have hy' : [Value.string s] = [Go.J.str y] := hy
  exact ⟨y, by show Value.string s = Go.J.str y; simpa using hy', hq⟩
theorem Arg.slice {α : Type} {P : Program} {t e : TypeId} {c : Cod α} {Q : List α → Nat → Prop} (ht : P.underlying t = some (.slice e)) (ho : Opens P t (cSl c) Q) : Arg P t (ASl c) Q := by
  intro H enc W base v d p hk hd
  obtain ⟨a, len, cap, rfl⟩ := okWide_slice ht hk
  obtain ⟨fuel, hf⟩ := hd
  obtain ⟨y, ⟨A, cap', e0, hcap, hsl⟩, hq⟩ := ho enc W fuel _ _ hf
  have e0' : [Value.slice a len cap] = [.slice A y.length cap'] := e0
  exact ⟨y, ⟨A, cap', by simpa using e0', hcap, hsl⟩, hq⟩
theorem Arg.agg {α : Type} {P : Program} {t : TypeId} {fs : Array Field} {c : Cod α} {Q : α → Nat → Prop} (ht : P.underlying t = some (.struct fs)) (ho : Opens P t c Q) : Arg P t (AAgg c) Q := by
  intro H enc W base v d p hk hd
  obtain ⟨cs, rfl, _⟩ := okWide_struct ht hk
  obtain ⟨fuel, hf⟩ := hd
  obtain ⟨y, hy, hq⟩ := ho enc W fuel _ _ hf
  exact ⟨y, ⟨cs.toList, by cases cs; rfl, hy⟩, hq⟩

theorem own : ownKnob Tryz.prog.godebug = none := by kernel_rfl
theorem laid : laidOutB Tryz.prog = true := by kernel_rfl

/-- arguments whose memory stays read as they did -/
theorem all_stays {H : Type} {enc : TypeId × Value → H} {P : Program} (hl : laidOutB P = true) {W W' : World} (hu : Upd [] W W') {sp : Nat → Bool} : ∀ {ts : List TypeId} {vs : List Value} {ds : List (DataW H)} {p : List MemPlace}, (ts.all fun t => P.readableRec t && decide (t < P.types.size)) = true →
    DataW.TrodAll enc P W 0 (fun _ => true) true ts vs ds p → (∀ x ∈ p, x.block < W.heap.size) → (∀ x ∈ p, sp x.block = true) → DataW.TrodAll enc P W' 0 sp true ts vs ds p
  | [], [], [], p, _, h, _, _ => h
  | t :: ts, vs, ds, p, hr, h, hlt, hsp => by
    obtain ⟨v, vs', d, ds', p1, q1, rfl, rfl, rfl, h1, h2⟩ := trodAll_cons h
    simp only [List.all_cons, Bool.and_eq_true] at hr
    refine trodAll_cons_mk ?_ (all_stays hl hu (by simpa using hr.2) h2 (fun x hx => hlt x (by simp [hx])) fun x hx => hsp x (by simp [hx]))
    exact WideElems.Trod_stays hl hr.1.1 (of_decide_eq_true hr.1.2) h1 (fun x hx => hu.below.same (hlt x (by simp [hx]))) (fun x hx => hsp x (by simp [hx]))
  | [], [], _ :: _, _, _, h, _, _ => by simp [DataW.TrodAll] at h
  | [], _ :: _, _, _, _, h, _, _ => by simp [DataW.TrodAll] at h
theorem all_len {H : Type} {enc : TypeId × Value → H} {P : Program} {W : World} {sp : Nat → Bool} : ∀ {ts : List TypeId} {vs : List Value} {ds : List (DataW H)} {p : List MemPlace}, DataW.TrodAll enc P W 0 sp true ts vs ds p → ds.length = ts.length
  | [], [], [], _, _ => rfl
  | t :: ts, vs, ds, p, h => by
    obtain ⟨v, vs', d, ds', p1, q1, rfl, rfl, rfl, h1, h2⟩ := trodAll_cons h
    simp [all_len h2]
  | [], [], _ :: _, _, h => by simp [DataW.TrodAll] at h
  | [], _ :: _, _, _, h => by simp [DataW.TrodAll] at h

theorem law_post {H : Type} {enc : TypeId × Value → H} {P : Program} (hl : laidOutB P = true) {f : Func} {s : ChangeSpec} {tb : TypeId} {W W' : World} {args : Array Value} {ds gs : List (DataW H)} {before : List MemPlace}
    (hb : P.underlying tb = some .bool) (hrt : f.resultTypes = #[tb]) (hread : (f.params.toList.all fun t => P.readableRec t && decide (t < P.types.size)) = true) (hv : s.vars = [])
    (hs : ∀ ds : List (DataW H), ds.length = f.params.toList.length → (s.fn H ds).results = [.lit (.bool true)] ∧ (s.fn H ds).args = ds ∧ (s.fn H ds).vars = [])
    (hW : DataW.Whole enc P f.params.toList s.vars false W args.toList ds gs before) (hu : Upd [] W W') : s.post enc P f false true false false W args (.bool true) W' := by
  obtain ⟨p, q, hA, hV, rfl, hfz, hnd⟩ := id hW
  have hV' := hV
  rw [hv] at hV'
  obtain ⟨rfl, rfl⟩ := trodVars_none hV'
  have hlen := all_len hA
  obtain ⟨h1, h2, h3⟩ := hs ds hlen
  have hlt : ∀ x ∈ p, x.block < W.heap.size := fun x hx => hW.lt x (by simp [hx])
  refine post_of_below (pa := p) (pv := []) hW (fun _ _ _ => ?_) (fun sp hsp => ?_) (fun sp hsp => ?_) rfl hu.below (fun j t r hj hr => ?_)
  · rw [hrt, List.append_nil, h1]
    exact trodAll_cons_mk (shut_bool hb _) trodAll_mk0
  · rw [List.append_nil, h2]
    exact all_stays hl hu hread hA hlt fun x hx => hsp x (by simp [hx])
  · rw [hv, List.append_nil, h3]
    exact rfl
  · exact ok_one hrt rfl (okWide_bool_mk hb _) j t r hj hr
end Go.Proofs.YtmofcalcdjoicaaGreatDoor

/- What is proved: a table on a quiet disk, opened and committed to by the program; the law's awake. Conditions: texts and lists of bounded length. -/
set_option linter.unusedSimpArgs false
set_option linter.unusedVariables false
namespace Go.Proofs.YtmofcalcdjoicaaGreatDoor
open Go Go.J Go.RowKit

theorem applyE_len : ∀ (l : List Chg) (rows : Rws), (applyE rows l).length ≤ rows.length + l.length
  | [], rows => Nat.le_refl _
  | o :: l, rows => by
    rw [applyE_cons]
    have h := applyE_len l (if o.gone then mdel rows o.key else mset rows o.key o.val)
    have h2 : (if o.gone then mdel rows o.key else mset rows o.key o.val).length ≤ rows.length + 1 := by
      split
      · exact Nat.le_trans (mdel_sub _ _).length_le (Nat.le_succ _)
      · have h3 := mset_keys rows o.key o.val
        have h4 := congrArg List.length h3
        rw [List.length_map] at h4
        rw [h4]
        split
        · rw [List.length_map]; omega
        · rw [List.length_append, List.length_map]; simp
    simp only [List.length_cons]
    omega
theorem pack_small {rows : Rws} (hn : (rows.map Prod.fst).Nodup) {B : Nat} (h : szR rows ≤ B) (hB : B ≤ 500000000000) : (recordE (packL rows)).length ≤ B + 10 ∧ (packE (recordE (packL rows))).length ≤ B + 34 := by
  have h1 := szL_pack hn
  have h2 := szL_len (packL rows)
  have h3 := recordE_len (packL rows) (smO_of (by omega)) (by omega)
  have h4 := packE_len (recordE (packL rows))
  have h5 := putN_len10 (n := (recordE (packL rows)).length) (by omega)
  omega
theorem tabPack_sm {T : Tb} {D : Dk} {B : Nat} (h : D.Sm B) (hp : (packE (recordE (packL T.rows))).length ≤ B) : (tabPack T D).2.2.Sm B := by
  unfold tabPack
  split
  · exact h.fill hp
  · exact (h.fill hp).fill (Nat.zero_le _)
theorem walAdd_smB {D : Dk} {G : Lg} {r : List UInt8} {B : Nat} (h : D.Sm B) (hr : r.length ≤ 1073741824) : (walAdd G D r).2.2.Sm (B + 1073742000) := by
  have hpk := packE_len r
  have hpn := putN_len10 (n := r.length) (by omega)
  have h1 : (D.append G.p (packE r)).2.Sm (B + 1073742000) := h.append (by omega)
  unfold walAdd
  repeat' split
  · exact h1
  · exact h1.sync
  · exact h1.sync
theorem tabCommit_sm {T : Tb} {D : Dk} {ops : List Chg} {B : Nat} (h : D.Sm B) (hr : (recordE ops).length ≤ 1073741824) (hp : (packE (recordE (packL (applyE T.rows ops)))).length ≤ B + 1073742000) : (tabCommit T D ops).2.2.Sm (B + 1073742000) := by
  have h1 := walAdd_smB (G := T.log) h hr
  unfold tabCommit
  repeat' split
  · exact h.up (Nat.le_add_right _ _)
  · exact h1
  · exact tabPack_sm h1 hp
  · exact h1
theorem Dt0_sm {B : Nat} : Dt0.Sm B := by
  refine ⟨rfl, fun x hx => ?_⟩
  simp only [Dt0, List.mem_cons, List.not_mem_nil, or_false] at hx
  rcases hx with rfl | rfl
  · exact Nat.zero_le _
  · exact Nat.zero_le _
/-- a new disk's table is opened -/
theorem topenFirst_c {q mb lb : Nat} {w0 : World} (hi : InL w0 [dkC q mb lb Dk0]) :
    Cal Tryz.prog 17 [.pointer (some ⟨q, 0, none⟩), str sysP] w0 (fun v w' => ∃ Tp fp, v = .tuple #[.pointer (some ⟨Tp, 0, none⟩), .int .i64 0] ∧ MutL w0 w' [dkC q mb lb Dk0] [tabC Tp q ⟨sysP, [], ⟨sysL, [], false⟩⟩ fp, dkC q mb lb Dt0]) := by
  have h := topen_c sysP hi (by decide) Dk0_sm (fun e G D' h => by
    have h2 : walOpen (tabMk Dk0 sysP).2 (logP sysP) = (0, some ⟨sysL, [], false⟩, Dt0) := by kernel_rfl
    rw [h2] at h
    cases h
    exact ⟨by decide, by simp⟩)
  rw [open_first] at h
  exact h
/-- the table is opened again -/
theorem topenSt_c {q mb lb : Nat} {D : Dk} {bs : Option (List Chg)} {ls : List (List Chg)} {w0 : World} (hi : InL w0 [dkC q mb lb D]) (hst : TabSt D bs ls) (hw : TabWf bs ls) (hno : D.Sm 1099511627776) :
    Cal Tryz.prog 17 [.pointer (some ⟨q, 0, none⟩), str sysP] w0 (fun v w' => ∃ Tp fp, v = .tuple #[.pointer (some ⟨Tp, 0, none⟩), .int .i64 0] ∧ MutL w0 w' [dkC q mb lb D] [tabC Tp q ⟨sysP, rowsOf bs ls, ⟨sysL, ls.map recordE, false⟩⟩ fp, dkC q mb lb D]) := by
  have h := topen_c sysP hi (by decide) hno (fun e G D' h => by
    have hmk : (tabMk D sysP).2 = D := by unfold tabMk; rw [hst.sys.kindP, if_neg (by decide)]
    rw [hmk, show logP sysP = sysL from rfl, hst.walOpen hw] at h
    cases h
    refine ⟨by rw [List.length_map]; have := hw.few; omega, fun r hr => ?_⟩
    obtain ⟨l, hl, rfl⟩ := List.mem_map.1 hr
    have := rec_small (hw.small l hl)
    omega)
  rw [hst.open hw] at h
  exact h
theorem getE_of {rows : Rws} {f : List UInt8 → Option (List UInt8)} (h : RowsAre rows f) (k : List UInt8) : getE rows k = ((f k).getD [], (f k).isSome) := by unfold getE; rw [h.2]
set_option maxHeartbeats 8000000 in
set_option maxRecDepth 100000 in
theorem tawake_c (w0 : World) : Cal Tryz.prog 13 [] w0 (fun v w' => Upd [] w0 w' ∧ v = .bool true) := by
  refine Cal.mk' (by kernel_rfl) Tryz.func13 rfl rfl fun hS => ?_
  obtain ⟨ops, hops⟩ : ∃ ops : List Chg, ops = [⟨[107], [118], false⟩] := ⟨_, rfl⟩
  have hsz : szL ops = 34 := by rw [hops]; rfl
  have hcl : Clean ops := by rw [hops]; intro o ho hg; simp at ho; rw [ho] at hg; cases hg
  have hrec := rec_small (l := ops) (by omega)
  obtain ⟨D1, hcm, hst⟩ := Dt0_st.commit [] ops (by rw [hops]; simp) (by decide)
  replace hst : TabSt D1 none [ops] := hst
  have hra : RowsAre (applyE [] ops) (applyF (fun _ => none) ops) := RowsAre.nil.apply
  have hsr : szR (applyE [] ops) ≤ 34 := by have := szR_apply ops []; rw [hsz] at this; exact this
  obtain ⟨hp1, hp2⟩ := pack_small hra.1 hsr (by omega)
  have hsm1 : D1.Sm 1099511627776 := by
    have := tabCommit_sm (T := ⟨sysP, [], ⟨sysL, [], false⟩⟩) (D := Dt0) (ops := ops) (B := 1000) Dt0_sm hrec (by dsimp only; omega)
    rw [show tabCommit ⟨sysP, [], ⟨sysL, [], false⟩⟩ Dt0 ops = _ from hcm] at this
    exact this.up (by omega)
  have hwf : TabWf none [ops] := ⟨(show 1 < 16 by decide), by simpa using hcl, by simp [hsz], fun o ho => by simp at ho, by decide⟩
  have hrow : rowsOf none [ops] = applyE [] ops := rfl
  have hget : getE (applyE [] ops) [107] = ([118], true) := by rw [hops]; rfl
  have hm : ([([107], ⟨[107], [118], false⟩)] : Bch).map Prod.snd = ops := by rw [hops]; rfl
  have hlen : (applyE [] ops).length ≤ 1048576 := by have := applyE_len ops []; rw [hops] at this ⊢; simp at this; omega
  have hkey : ∀ p ∈ applyE [] ops, p.1.length ≤ 1099511627776 := fun p hp => by have := szR_mem hp; omega
  have hreca : recordE [⟨[97], [98], false⟩] = [1, 1, 1, 97, 1, 98] := by
    have p1 : putN 1 = [1] := putN_small (by decide)
    simp [recordE, recO, textE, p1]
  have hrecl : (recordE [⟨[97], [98], false⟩]).length = 6 := by rw [hreca]; rfl
  clear hsz hcl hra hsr hp2
  have hcm' : tabCommit ⟨sysP, [], ⟨sysL, [], false⟩⟩ Dt0 (([([107], ⟨[107], [118], false⟩)] : Bch).map Prod.snd) = (0, ⟨sysP, applyE [] ops, ⟨sysL, [recordE ops], false⟩⟩, D1) := by rw [hm]; exact hcm
  clear hcm
  have hp1 : (recordE (packL (applyE [] ops))).length ≤ 549755813888 := by omega
  repeat' (first
    | (show WL _ _ _ _ _ _ _; first
      | refine WL.pure rfl rfl rfl rfl ?_
      | refine WL.nil ?_
      | (refine WL.callG rfl rfl (dnew_c _) rfl rfl rfl ?_; rintro v w ⟨hu, q, mb, lb, rfl, hn⟩; replace hS := hS.new hu hn; clear hu hn)
      | (refine WL.callL (D := [dkC q mb lb Dk0]) hS (by repeat (first | exact Pulls.nil | (apply Pulls.cons; focus (repeat (first | exact Pull.here | apply Pull.there))))) rfl rfl (fun hI => topenFirst_c hI) rfl rfl rfl ?_; rintro v w ⟨Tp, fp, rfl, hmu⟩ hS; replace hS := hS _ hmu; clear hmu)
      | (refine WL.callG rfl rfl (begin_c _) rfl rfl rfl ?_; rintro v w ⟨hu, B, fb, rfl, hn⟩; replace hS := hS.new hu hn; clear hu hn)
      | (refine WL.callG rfl rfl (bput_c [107] [118] (hS.holds _ (List.Mem.head _)) (hS.inB_of (List.Mem.head _)) (by decide)) rfl rfl rfl ?_; rintro v w ⟨rfl, fb2, hmut⟩; replace hS := hS.mut hmut .here; clear hmut)
      | (refine WL.callL (D := [bchC B (some ⟨Tp, 0, none⟩) [([107], ⟨[107], [118], false⟩)] fb2, tabC Tp q ⟨sysP, [], ⟨sysL, [], false⟩⟩ fp, dkC q mb lb Dt0]) hS (by repeat (first | exact Pulls.nil | (apply Pulls.cons; focus (repeat (first | exact Pull.here | apply Pull.there))))) rfl rfl (fun hI => bcommit_c hI hcm' (by decide) (by decide) Dt0_sm (by rw [hm]; exact hrec) (by decide) (by decide) (by rw [hm]; exact hp1) (by rw [hm]; exact hlen) (by rw [hm]; exact hkey)) rfl rfl rfl ?_; rintro v w ⟨rfl, fb3, fp2, hmu⟩ hS; replace hS := hS _ hmu; clear hmu)
      | (refine WL.callL (D := [dkC q mb lb D1]) hS (by repeat (first | exact Pulls.nil | (apply Pulls.cons; focus (repeat (first | exact Pull.here | apply Pull.there))))) rfl rfl (fun hI => topenSt_c hI hst hwf hsm1) rfl rfl rfl ?_; rintro v w ⟨Tp2, fp3, rfl, hmu⟩ hS; replace hS := hS _ hmu; clear hmu; rw [hrow] at hS)
      | (refine WL.callL (D := [tabC Tp2 q ⟨sysP, applyE [] ops, ⟨sysL, [ops].map recordE, false⟩⟩ fp3]) hS (by repeat (first | exact Pulls.nil | (apply Pulls.cons; focus (repeat (first | exact Pull.here | apply Pull.there))))) rfl rfl (fun hI => tget_c [107] hI) rfl rfl rfl ?_; rintro v w ⟨rfl, hmu⟩ hS; rw [show (Tb.rows ⟨sysP, applyE [] ops, ⟨sysL, [ops].map recordE, false⟩⟩) = applyE [] ops from rfl, hget]; replace hS := hS _ hmu; clear hmu)
      | (refine WL.calls hS rfl rfl (record_c [⟨[97], [98], false⟩] (St.boxSl (enc := cellsChg) (sz := 3) [⟨[97], [98], false⟩] (by decide) hS (by repeat (first | exact List.Mem.head _ | apply List.Mem.tail)) (by decide)) (by rw [hrecl]; decide) (by decide)) rfl rfl rfl ?_; rintro v w rfl hS; rw [hreca])
      | refine WL.build rfl rfl rfl rfl rfl ?_
      | (refine WL.slit hS rfl rfl rfl rfl rfl ?_; intro w b hS))
    | (show WC _ _ _ _ _ _; first
      | refine WC.seq ?_
      | refine WC.region ?_
      | refine WC.skip ?_
      | refine WC.ret ?_
      | refine WC.condF rfl (by with_reducible rfl) ?_
      | refine WC.condF rfl (by decide) ?_)
    | refine seqQ_n ?_)
  exact fin1r rfl rfl ⟨hS.upd, rfl⟩
end Go.Proofs.YtmofcalcdjoicaaGreatDoor

/- What is proved: batches filled with changes: what they answer, and what the table answers once they are committed; the law's fill. Conditions: texts and lists of bounded length. -/
set_option linter.unusedSimpArgs false
set_option linter.unusedVariables false
namespace Go.Proofs.YtmofcalcdjoicaaGreatDoor
open Go Go.J Go.RowKit Go.ChangeShapes Go.WideShapes Go.ChangeAt Go.Deep

/-! ## the argument -/
def QChg (o : Chg) (b : Nat) : Prop := o.key.length + o.val.length + 4 ≤ b
theorem list3 {α : Type} {l : List α} (h : l.length = 3) : ∃ a b c, l = [a, b, c] := by match l, h with | [a, b, c], _ => exact ⟨a, b, c, rfl⟩
theorem Opens.bool {P : Program} {t : TypeId} (ht : P.underlying t = some .bool) : Opens P t cBool (fun _ b => 1 ≤ b) := by
  intro H enc W fuel cs x h
  obtain ⟨b, rfl, rfl⟩ := DataW.trod_bool ht h
  exact ⟨b, rfl, by simp [Rows.uptoBulk]⟩
set_option maxRecDepth 100000 in
theorem open_op : Opens Tryz.prog 24 cChg QChg := by
  intro H enc W fuel cs x h
  obtain ⟨xs, n, _, rfl, hlen, hxl, hf⟩ := DataW.trod_struct Tryz.underlying24 h
  obtain ⟨x0, x1, x2, rfl⟩ := list3 hxl
  obtain ⟨c0, c1, c2, rfl⟩ := list3 (hlen.trans (by kernel_rfl))
  obtain ⟨s0, e0, q0⟩ := Opens.str Tryz.underlying9 enc W n [c0] x0 (hf 0 _ rfl)
  obtain ⟨s1, e1, q1⟩ := Opens.str Tryz.underlying9 enc W n [c1] x1 (hf 1 _ rfl)
  obtain ⟨s2, e2, q2⟩ := Opens.bool Tryz.underlying4 enc W n [c2] x2 (hf 2 _ rfl)
  have e0 : [c0] = [str s0] := e0
  have e1 : [c1] = [str s1] := e1
  have e2 : [c2] = [.bool s2] := e2
  simp only [List.cons.injEq, and_true] at e0 e1 e2
  subst e0 e1 e2
  refine ⟨⟨s0, s1, s2⟩, rfl, ?_⟩
  unfold QChg
  simp [Rows.uptoBulk, Rows.uptoBulkAll] at *
  omega
instance : Inhabited Chg := ⟨Chg0⟩
theorem arg_ops : Arg Tryz.prog 22 (ASl cChg) (QL QChg) := Arg.slice Tryz.underlying22 (Opens.slice Tryz.underlying22 (by kernel_rfl) (by decide) open_op)
theorem QL_sum {α : Type} {Q : α → Nat → Prop} {f : α → Nat} (hf : ∀ a b, Q a b → f a ≤ b) : ∀ {ys : List α} {b : Nat}, QL Q ys b → (ys.map f).sum + 1 ≤ b := by
  intro ys b ⟨bs, hl, hq, hs⟩
  have key : ∀ (ys : List α) (bs : List Nat), bs.length = ys.length → (∀ i (h : i < ys.length) (h' : i < bs.length), Q ys[i] bs[i]) → (ys.map f).sum ≤ bs.sum := by
    intro ys
    induction ys with
    | nil => intro bs _ _; simp
    | cons y ys ih =>
      intro bs hl hq
      rcases bs with _ | ⟨b, bs⟩
      · simp at hl
      · have h0 := hf _ _ (hq 0 (by simp) (by simp))
        have h1 := ih bs (by simpa using hl) (fun i h h' => hq (i + 1) (by simpa using h) (by simpa using h'))
        simp only [List.map_cons, List.sum_cons, List.getElem_cons_zero] at h0 h1 ⊢
        omega
  have := key ys bs hl hq
  omega
theorem sum_le {α : Type} (f g : α → Nat) (c : Nat) (h : ∀ a, f a ≤ c * g a) : ∀ l : List α, (l.map f).sum ≤ c * (l.map g).sum
  | [] => by simp
  | a :: l => by
    have h1 := sum_le f g c h l
    have h2 := h a
    simp only [List.map_cons, List.sum_cons, Nat.mul_add]
    omega
theorem szL_of {l : List Chg} {b : Nat} (h : QL QChg l b) (hb : b ≤ 1048576) : szL l ≤ 8388608 ∧ l.length ≤ 262144 := by
  have h1 := QL_sum (f := fun o : Chg => o.key.length + o.val.length + 4) (fun a b h => h) h
  have h2 := sum_le szO (fun o : Chg => o.key.length + o.val.length + 4) 8 (fun a => by unfold szO; omega) l
  have h3 : ∀ l : List Chg, 4 * l.length ≤ (l.map fun o : Chg => o.key.length + o.val.length + 4).sum := by
    intro l
    induction l with
    | nil => simp
    | cons o l ih => simp only [List.map_cons, List.sum_cons, List.length_cons]; omega
  have h4 := h3 l
  unfold szL
  omega
/-! ## batches filled -/
def fillE (m : Bch) (l : List Chg) : Bch := l.foldl (fun m o => noteE m (normO o)) m
structure BchOk (m : Bch) : Prop where
  nd : (m.map Prod.fst).Nodup
  key : ∀ p ∈ m, p.1 = p.2.key
  clean : Clean (m.map Prod.snd)
theorem mset_mem {β : Type} {m : List (List UInt8 × β)} {x : List UInt8} {v : β} {p : List UInt8 × β} (h : p ∈ mset m x v) : p ∈ m ∨ p = (x, v) := by
  induction m with
  | nil => simp [mset] at h; exact .inr h
  | cons a r ih =>
    obtain ⟨k, u⟩ := a
    unfold mset at h
    split at h
    · rename_i e
      rcases List.mem_cons.1 h with rfl | h
      · exact .inr (by rw [e])
      · exact .inl (List.mem_cons_of_mem _ h)
    · rcases List.mem_cons.1 h with rfl | h
      · exact .inl (List.mem_cons_self ..)
      · rcases ih h with h | h
        · exact .inl (List.mem_cons_of_mem _ h)
        · exact .inr h
theorem normO_key (o : Chg) : (normO o).key = o.key := by unfold normO; split <;> rfl
theorem normO_clean (o : Chg) : (normO o).gone = true → (normO o).val = [] := by
  unfold normO
  split
  · intro _; rfl
  · rename_i h; intro hg; exact absurd hg h
theorem normO_sz (o : Chg) : szO (normO o) ≤ szO o := by unfold normO szO; split <;> simp
theorem BchOk.nil : BchOk [] := ⟨by simp, by simp, by intro o ho; simp at ho⟩
theorem BchOk.note {m : Bch} (h : BchOk m) (o : Chg) : BchOk (noteE m (normO o)) := by
  refine ⟨mset_nodup h.nd _ _, fun p hp => ?_, fun x hx => ?_⟩
  · rcases mset_mem hp with hp | rfl
    · exact h.key p hp
    · rfl
  · obtain ⟨p, hp, rfl⟩ := List.mem_map.1 hx
    rcases mset_mem hp with hp | rfl
    · exact h.clean _ (List.mem_map_of_mem hp)
    · exact normO_clean o
theorem BchOk.fill : ∀ {l : List Chg} {m : Bch}, BchOk m → BchOk (fillE m l)
  | [], _, h => h
  | o :: l, m, h => BchOk.fill (l := l) (h.note o)
theorem szB_note (m : Bch) (o : Chg) : szL ((noteE m o).map Prod.snd) ≤ szL (m.map Prod.snd) + szO o ∧ (noteE m o).length ≤ m.length + 1 := by
  unfold noteE
  generalize o.key = x
  induction m with
  | nil => simp [mset, szL]
  | cons a r ih =>
    obtain ⟨k, u⟩ := a
    unfold mset
    split
    · simp only [szL, List.map_cons, List.sum_cons, List.length_cons]; omega
    · obtain ⟨h1, h2⟩ := ih
      simp only [szL, List.map_cons, List.sum_cons, List.length_cons] at h1 h2 ⊢
      omega
theorem szB_fill : ∀ (l : List Chg) (m : Bch), szL ((fillE m l).map Prod.snd) ≤ szL (m.map Prod.snd) + szL l ∧ (fillE m l).length ≤ m.length + l.length
  | [], m => by simp [fillE, szL]
  | o :: l, m => by
    have h := szB_fill l (noteE m (normO o))
    have h2 := szB_note m (normO o)
    have h3 := normO_sz o
    show szL ((fillE (noteE m (normO o)) l).map Prod.snd) ≤ _ ∧ (fillE (noteE m (normO o)) l).length ≤ _
    simp only [szL, List.map_cons, List.sum_cons, List.length_cons] at h h2 h3 ⊢
    omega
/-- what the last change of a key says -/
def wantE (k : List UInt8) (w : List UInt8 × Bool) (o : Chg) : List UInt8 × Bool := if o.key = k then (if o.gone then [] else o.val, !o.gone) else w
theorem bgetE_note (rows : Rws) (m : Bch) (o : Chg) (k : List UInt8) : bgetE rows (noteE m (normO o)) k = wantE k (bgetE rows m k) o := by
  unfold bgetE noteE wantE
  rw [mget_set, normO_key]
  by_cases e : o.key = k
  · rw [if_pos e.symm, if_pos e]
    obtain ⟨a, b, g⟩ := o
    cases g <;> rfl
  · rw [if_neg (fun h => e h.symm), if_neg e]
theorem bgetE_fill : ∀ (l : List Chg) (rows : Rws) (m : Bch) (k : List UInt8), bgetE rows (fillE m l) k = l.foldl (wantE k) (bgetE rows m k)
  | [], _, _, _ => rfl
  | o :: l, rows, m, k => by
    show bgetE rows (fillE (noteE m (normO o)) l) k = _
    rw [bgetE_fill l, bgetE_note, List.foldl_cons]
theorem mget_cons {β : Type} (a : List UInt8) (o : β) (m : List (List UInt8 × β)) (k : List UInt8) : mget ((a, o) :: m) k = if k = a then some o else mget m k := rfl
theorem applyF_bch : ∀ {m : Bch} (f : List UInt8 → Option (List UInt8)), (m.map Prod.fst).Nodup → (∀ p ∈ m, p.1 = p.2.key) → ∀ k, applyF f (m.map Prod.snd) k = match mget m k with | some o => (if o.gone then none else some o.val) | none => f k
  | [], f, _, _, k => rfl
  | (a, o) :: m, f, hn, hk, k => by
    have hn' : a ∉ m.map Prod.fst ∧ (m.map Prod.fst).Nodup := by simpa using hn
    have ha : a = o.key := hk _ (List.mem_cons_self ..)
    have ih := applyF_bch (m := m) (setF f o) hn'.2 (fun p hp => hk p (List.mem_cons_of_mem _ hp)) k
    show applyF (setF f o) (m.map Prod.snd) k = _
    rw [ih, mget_cons]
    by_cases e : k = a
    · subst e
      rw [if_pos rfl, mget_none.2 hn'.1]
      simp only [setF]
      rw [if_pos ha]
    · rw [if_neg e]
      cases mget m k with
      | none => simp only [setF]; rw [if_neg (fun h => e (h.trans ha.symm))]
      | some x => rfl
/-- what the batch answers, the table answers once it is committed -/
theorem getE_commit {rows : Rws} {f : List UInt8 → Option (List UInt8)} (hr : RowsAre rows f) {m : Bch} (h : BchOk m) (k : List UInt8) : getE (applyE rows (m.map Prod.snd)) k = bgetE rows m k := by
  rw [getE_of hr.apply, applyF_bch f h.nd h.key]
  unfold bgetE
  cases hg : mget m k with
  | none => rw [getE_of hr]
  | some o =>
    have hm := mget_mem hg
    have hc := h.clean o (List.mem_map_of_mem (f := Prod.snd) hm)
    cases hgo : o.gone with
    | true => simp [hc hgo, hgo]
    | false => simp [hgo]
/-- a batch, whatever it holds, committed -/
theorem TabSt.commitAny {D : Dk} {bs : Option (List Chg)} {ls : List (List Chg)} (h : TabSt D bs ls) (hw : TabWf bs ls) (rows : Rws) (ops : List Chg) (hcl : Clean ops) (hsz : szL ops ≤ 1073000000) (hf : ls.length < 15) :
    ∃ D' ls', tabCommit ⟨sysP, rows, ⟨sysL, ls.map recordE, false⟩⟩ D ops = (0, ⟨sysP, applyE rows ops, ⟨sysL, ls'.map recordE, false⟩⟩, D') ∧ TabSt D' bs ls' ∧ TabWf bs ls' ∧ ls'.length ≤ ls.length + 1 ∧ rowsOf bs ls' = applyE (rowsOf bs ls) ops := by
  by_cases hne : ops = []
  · subst hne
    exact ⟨D, ls, rfl, h, hw, Nat.le_succ _, rfl⟩
  · obtain ⟨D', hcm, hst⟩ := h.commit rows ops hne hf
    refine ⟨D', ls ++ [ops], hcm, hst, ⟨by simp; omega, ?_, ?_, hw.bclean, hw.bsmall⟩, by simp, ?_⟩
    · intro l hl
      rcases List.mem_append.1 hl with hl | hl
      · exact hw.clean l hl
      · simp at hl; rw [hl]; exact hcl
    · intro l hl
      rcases List.mem_append.1 hl with hl | hl
      · exact hw.small l hl
      · simp at hl; rw [hl]; exact hsz
    · unfold rowsOf; rw [List.foldl_append]; rfl
/-! ## the law's fill -/
section
variable {α : Type} {c : Cod α} {w0 w : World} {M : List Nat} {H : List Chunk} {Z : List Snap} {z : Snap} {k : Chunk}
theorem St.slX (hS : St w0 M w H Z) (hz : z ∈ Z) {A : Option Addr} {xs : List α} (h : SlAt c z.F z.w A xs) (hk : k ∈ H) : SlAt c (fun b => b < w.heap.size ∧ b ∉ k.fp) w A xs :=
  (hS.sl hz h).mono fun b hb => ⟨(hS.snap z hz b hb).1, (hS.snap z hz b hb).2.2 k hk⟩
end
set_option maxHeartbeats 8000000 in
set_option maxRecDepth 100000 in
theorem lfill_c {B : Nat} {tp : Option Addr} {m : Bch} {fp : List Nat} {l : List Chg} {A : Option Addr} {cap : Nat} {w0 : World} (hc : (bchC B tp m fp).holds w0) (hi : inB (bchC B tp m fp) w0) (h : SlAt cChg (fun b => b < w0.heap.size ∧ b ∉ (bchC B tp m fp).fp) w0 A l) (hm : m.length + l.length ≤ 1099511627) :
    Cal Tryz.prog 18 [.pointer (some ⟨B, 0, none⟩), .slice A l.length cap] w0 (fun v w' => v = .pointer (some ⟨B, 0, none⟩) ∧ ∃ fp', Mut w0 w' (bchC B tp m fp) (bchC B tp (fillE m l) fp')) := by
  refine Cal.mkM hc hi (by kernel_rfl) Tryz.func18 rfl rfl fun hS => ?_
  repeat' (first
    | (show WL _ _ _ _ _ _ _; first
      | refine WL.pure rfl rfl rfl rfl ?_
      | refine WL.nil ?_)
    | (show WC _ _ _ _ _ _; first
      | refine WC.seq ?_
      | refine WC.region ?_
      | refine WC.block ?_)
    | refine seqQ_n ?_)
  refine WC.loop (σ := Nat × Bch × List Nat) [0, 1] (fun (k, m', fp') => [(5, .int .i64 (k : Int))]) (fun (k, m', fp') w => k ≤ l.length ∧ fillE m' (l.drop k) = fillE m l ∧ m'.length ≤ m.length + k ∧ St w0 (bchC B tp m fp).fp w [bchC B tp m' fp'] [⟨w0, fun b => b < w0.heap.size ∧ b ∉ (bchC B tp m fp).fp⟩]) (fun (k, _) => l.length - k) (0, m, fp) ⟨Nat.zero_le _, rfl, Nat.le_refl _, hS⟩ ⟨rfl, trivial⟩ ?_
  clear hS
  rintro ⟨k, m', fp'⟩ g w ⟨hk, hfe, hml, hS⟩
  by_cases hlt : k < l.length
  · obtain ⟨rb, ro, es, rfl, hF, hr, hes⟩ := h.at_ hlt
    have hes : es = cellsChg l[k] := hes
    subst hes
    have hr : w0.rangeAt rb (ro + k * 3) (cellsChg l[k]) := hr
    rw [List.drop_eq_getElem_cons hlt] at hfe
    generalize l[k] = o at *
    have hnl := (szB_note m' (normO o)).2
    obtain ⟨key, val, gone⟩ := o
    rcases gone with _ | _
    · replace hfe : fillE (noteE m' ⟨key, val, false⟩) (l.drop (k + 1)) = fillE m l := hfe
      replace hnl : (noteE m' ⟨key, val, false⟩).length ≤ m'.length + 1 := hnl
      repeat' (first
        | (show WL _ _ _ _ _ _ _; first
          | refine WL.pure rfl rfl rfl rfl ?_
          | refine WL.nil ?_
          | refine WL.add rfl rfl rfl (by omega) rfl rfl rfl ?_
          | (refine WL.load hS rfl rfl (LdOk.snap hF hr (by repeat (first | exact List.Mem.head _ | apply List.Mem.tail)) rfl) rfl rfl rfl ?_)
          | refine WL.index rfl rfl rfl rfl (by first | with_reducible assumption | omega) rfl rfl rfl rfl ?_)
        | (show WC _ _ _ _ _ _; first
          | refine WC.seq ?_
          | refine WC.region ?_
          | refine WC.block ?_
          | refine WC.skip ?_
          | (show WC _ _ (Code.region _ (List.toArray [_, _, _, _, _, _, _, _, _, _, _, _]) true) _ _ _; refine WC.drawL [bchC B tp m' fp'] hS (by repeat (first | exact Pulls.nil | (apply Pulls.cons; focus (repeat (first | exact Pull.here | apply Pull.there))))) [0,1,2,3,4,5,6,7,8,9,10] [0,1,2,3,4,5,6,7,8,9,10,11] (by kernel_rfl) (by kernel_rfl) ?_; clear hS; intro w hS hM)
          | refine WC.condF rfl (by with_reducible rfl) ?_
          | refine WC.condT rfl (decide_eq_true (by first | with_reducible assumption | omega)) ?_)
        | (show WD _ _ _ _ _ _ _ _ _; first
          | refine WD.pure rfl rfl rfl rfl rfl ?_
          | refine WD.nil ?_
          | (refine WD.load rfl rfl (LdOk.snap hF hr (by repeat (first | exact List.Mem.head _ | apply List.Mem.tail)) rfl) rfl rfl rfl rfl ?_)
          | (refine WD.callL (D := [bchC B tp m' fp']) hS (by repeat (first | exact Pulls.nil | (apply Pulls.cons; focus (repeat (first | exact Pull.here | apply Pull.there))))) (.refl _ _) rfl rfl (fun hI => bput_c key val hI.head hI.headB (by omega)) rfl rfl rfl rfl rfl ?_; rintro v w ⟨rfl, fp2, hmu⟩; refine ⟨_, .of1 hmu, fun hS hM => ?_⟩; clear hmu)
          | refine WD.index rfl rfl rfl rfl (by first | with_reducible assumption | omega) rfl rfl rfl rfl rfl ?_)
        | refine seqQ_n ?_
        | refine blkQ_n ?_)
      exact rndQ_n (k + 1, noteE m' ⟨key, val, false⟩, fp2) ⟨by omega, hfe, by omega, hS⟩ (by show l.length - (k + 1) < l.length - k; omega) ⟨vint (by omega), trivial⟩ ⟨rfl, rfl, trivial⟩
    · replace hfe : fillE (noteE m' ⟨key, [], true⟩) (l.drop (k + 1)) = fillE m l := hfe
      replace hnl : (noteE m' ⟨key, [], true⟩).length ≤ m'.length + 1 := hnl
      repeat' (first
        | (show WL _ _ _ _ _ _ _; first
          | refine WL.pure rfl rfl rfl rfl ?_
          | refine WL.nil ?_
          | refine WL.add rfl rfl rfl (by omega) rfl rfl rfl ?_
          | (refine WL.load hS rfl rfl (LdOk.snap hF hr (by repeat (first | exact List.Mem.head _ | apply List.Mem.tail)) rfl) rfl rfl rfl ?_)
          | (refine WL.callL (D := [bchC B tp m' fp']) hS (by repeat (first | exact Pulls.nil | (apply Pulls.cons; focus (repeat (first | exact Pull.here | apply Pull.there))))) rfl rfl (fun hI => bdrop_c key hI.head hI.headB (by omega)) rfl rfl rfl ?_; rintro v w ⟨rfl, fp2, hmu⟩ hS; replace hS := hS _ (.of1 hmu); clear hmu)
          | refine WL.index rfl rfl rfl rfl (by first | with_reducible assumption | omega) rfl rfl rfl rfl ?_)
        | (show WC _ _ _ _ _ _; first
          | refine WC.seq ?_
          | refine WC.region ?_
          | refine WC.block ?_
          | refine WC.skip ?_
          | refine WC.condT rfl (by with_reducible rfl) ?_
          | refine WC.condT rfl (decide_eq_true (by first | with_reducible assumption | omega)) ?_)
        | refine seqQ_n ?_
        | refine blkQ_n ?_)
      exact rndQ_n (k + 1, noteE m' ⟨key, [], true⟩, fp2) ⟨by omega, hfe, by omega, hS⟩ (by show l.length - (k + 1) < l.length - k; omega) ⟨vint (by omega), trivial⟩ ⟨rfl, rfl, trivial⟩
  · have hke : k = l.length := by omega
    subst hke
    rw [List.drop_length] at hfe
    have hfe : m' = fillE m l := hfe
    subst hfe
    repeat' (first
      | (show WL _ _ _ _ _ _ _; first
        | refine WL.pure rfl rfl rfl rfl ?_
        | refine WL.nil ?_)
      | (show WC _ _ _ _ _ _; first
        | refine WC.seq ?_
        | refine WC.region ?_
        | refine WC.exit ?_
        | refine WC.ret ?_
        | refine WC.condF rfl (decide_eq_false (by first | with_reducible assumption | omega)) ?_)
      | refine seqQ_n ?_
      | refine seqQ_x ?_
      | refine blkQ_hit rfl ?_
      | refine rndQ_x ?_)
    exact fin1r rfl rfl ⟨rfl, _, hS.mutOf (List.Mem.head _)⟩
end Go.Proofs.YtmofcalcdjoicaaGreatDoor

/- What is proved: what bytes of which one bit is turned are, and what the disk's Rot does. Conditions: texts of bounded length. -/
set_option linter.unusedSimpArgs false
set_option linter.unusedVariables false
namespace Go.Proofs.YtmofcalcdjoicaaGreatDoor
open Go Go.J Go.RowKit

/-- bytes of which one bit is turned -/
def turnK (s : List UInt8) (bit : Int) : Nat := (bit % (8 * (s.length : Int))).toNat
def turnE (s : List UInt8) (bit : Int) : List UInt8 := match s[turnK s bit / 8]? with
  | some c => s.set (turnK s bit / 8) (UInt8.ofNat (c.toNat ^^^ 2 ^ (turnK s bit % 8)))
  | none => s
theorem pow_lt256 {m : Nat} (h : m < 8) : 2 ^ m < 256 := by
  have : (2 : Nat) ^ m ≤ 2 ^ 7 := Nat.pow_le_pow_right (by omega) (by omega)
  omega
theorem turn_byte (c : UInt8) (m : Nat) (h : m < 8) : bits .xor .u8 (c.toNat : Int) (shlI .u8 1 (m : Int)) = (((UInt8.ofNat (c.toNat ^^^ 2 ^ m)).toNat : Nat) : Int) := by
  have hc := c.toNat_lt
  have hp := pow_lt256 h
  have e : shlI .u8 1 (m : Int) = ((2 ^ m : Nat) : Int) := by
    unfold shlI
    rw [show min (m : Int).toNat IntKind.u8.bits = m from by simp [IntKind.bits]; omega, IntKind.wrap_u8']
    have : (1 : Int) * 2 ^ m = ((2 ^ m : Nat) : Int) := by simp
    rw [this]; generalize (2 : Nat) ^ m = p at hp; omega
  rw [e, u8_xor_nat _ _ (by omega) hp]
  have hx : c.toNat ^^^ 2 ^ m < 256 := Nat.xor_lt_two_pow (n := 8) (by omega) (by omega)
  rw [ofNat_toNat hx]
theorem turnE_len (s : List UInt8) (bit : Int) : (turnE s bit).length = s.length := by
  unfold turnE
  split
  · rw [List.length_set]
  · rfl
set_option maxHeartbeats 4000000 in
set_option maxRecDepth 100000 in
theorem turn_c (s : List UInt8) (bit : Int) (w0 : World) (hl : s.length ≤ 1099511627776) : Cal Tryz.prog 70 [str s, .int .i64 bit] w0 (fun v w' => Upd [] w0 w' ∧ v = str (turnE s bit)) := by
  refine Cal.mk' (by kernel_rfl) Tryz.func70 rfl rfl fun hS => ?_
  by_cases h0 : s = []
  · subst h0
    repeat' (first
      | (show WL _ _ _ _ _ _ _; first
        | refine WL.pure rfl rfl rfl rfl ?_
        | refine WL.nil ?_)
      | (show WC _ _ _ _ _ _; first
        | refine WC.seq ?_
        | refine WC.region ?_
        | refine WC.ret ?_
        | refine WC.condT rfl (by decide) ?_)
      | refine seqQ_n ?_
      | refine seqQ_r ?_)
    exact fin1r rfl rfl ⟨hS.upd, rfl⟩
  · have hpos : 0 < s.length := by
      rcases Nat.eq_zero_or_pos s.length with h | h
      · exact absurd (List.eq_nil_of_length_eq_zero h) h0
      · exact h
    have hn8 : (0 : Int) < 8 * (s.length : Int) := by omega
    have hb := tmod_bound bit hn8
    have he0 := Int.emod_nonneg bit (show (8 * (s.length : Int)) ≠ 0 by omega)
    have he1 := Int.emod_lt_of_pos bit hn8
    obtain ⟨k, hk⟩ : ∃ k : Nat, bit % (8 * (s.length : Int)) = (k : Int) := ⟨_, (Int.toNat_of_nonneg he0).symm⟩
    have hkk : turnK s bit = k := by unfold turnK; rw [hk]; rfl
    have hk8 : k / 8 < s.length := by omega
    have hm := turn_byte s[k / 8] (k % 8) (by omega)
    have hT : turnE s bit = s.set (k / 8) (UInt8.ofNat (s[k / 8].toNat ^^^ 2 ^ (k % 8))) := by unfold turnE; rw [hkk, List.getElem?_eq_getElem hk8]
    have hj : s[k / 8]? = some s[k / 8] := List.getElem?_eq_getElem hk8
    rw [hT]
    generalize s[k / 8] = c at *
    generalize UInt8.ofNat (c.toNat ^^^ 2 ^ (k % 8)) = c' at *
    clear hT hkk
    have q1 : ((k : Int) / 8) = ((k / 8 : Nat) : Int) := rfl
    have q2 : ((k : Int) % 8) = ((k % 8 : Nat) : Int) := rfl
    repeat' (first
      | (show WL _ _ _ _ _ _ _; first
        | refine WL.pure rfl rfl rfl rfl ?_
        | refine WL.nil ?_
        | refine WL.add rfl rfl rfl (by omega) rfl rfl rfl ?_
        | (refine WL.mul rfl rfl rfl (by omega) rfl rfl rfl ?_)
        | (refine WL.remT rfl rfl rfl hn8 rfl rfl rfl ?_; rw [tmod_twice bit hn8, hk])
        | (refine WL.remT rfl rfl rfl hn8 rfl rfl rfl ?_)
        | (refine WL.s2b hS rfl rfl rfl rfl rfl rfl rfl ?_; intro w b cap hcap hS)
        | (refine WL.b2sBs hS rfl rfl rfl rfl (by repeat (first | exact List.Mem.head _ | apply List.Mem.tail)) (by rw [List.length_set]) rfl rfl rfl ?_))
      | (show WC _ _ _ _ _ _; first
        | refine WC.seq ?_
        | refine WC.region ?_
        | refine WC.skip ?_
        | refine WC.ret ?_
        | (show WC _ _ (Code.region _ (List.toArray [_, _, _, _, _, _, _, _, _, _, _]) true) _ _ _; refine WC.drawV hS [0,1,2,3,4,5,6,7,8,9] [0,1,2,3,4,5,6,7,8,9] 10 [] (by kernel_rfl) (by kernel_rfl) ?_; clear hS; intro w hS hM)
        | refine WC.condF rfl (decide_eq_false (by first | with_reducible assumption | omega)) ?_)
      | (show WD _ _ _ _ _ _ _ _ _; first
        | refine WD.pure rfl rfl rfl rfl rfl ?_
        | refine WD.nil ?_
        | (refine WD.quo rfl rfl rfl (by omega) (by omega) (by omega) rfl rfl rfl rfl ?_; rw [q1])
        | (refine WD.rem rfl rfl rfl (by omega) (by omega) rfl rfl rfl rfl ?_; rw [q2])
        | (refine WD.shl rfl rfl rfl (by omega) rfl rfl rfl rfl ?_)
        | (refine WD.load rfl rfl (LdOk.bs (by repeat (first | exact List.Mem.head _ | apply List.Mem.tail)) hj rfl ⟨_, rfl⟩) rfl rfl rfl rfl ?_)
        | (refine WD.pivBs hS rfl rfl (vint hm) (by repeat (first | exact Repl.here | apply Repl.there)) hk8 rfl rfl rfl rfl ?_; clear hS; intro w hS hM)
        | refine WD.index rfl rfl rfl rfl (by first | with_reducible assumption | omega) rfl rfl rfl rfl rfl ?_)
      | refine seqQ_n ?_)
    exact fin1r rfl rfl ⟨hS.upd, rfl⟩
def Dk.rot (D : Dk) (p : List UInt8) (bit : Int) : Int × Dk := if D.file p ≠ 0 then (D.file p, D) else (0, D.set p { D.at p with data := turnE (D.at p).data bit, kept := turnE (D.at p).kept bit })
set_option maxHeartbeats 4000000 in
set_option maxRecDepth 100000 in
theorem rot_c {q mb lb : Nat} {D : Dk} (p : List UInt8) (bit : Int) {w0 : World} (hc : (dkC q mb lb D).holds w0) (hi : inB (dkC q mb lb D) w0) (hl : p.length ≤ 1099511627) (hdl : (D.at p).data.length ≤ 1099511627776) (hkl : (D.at p).kept.length ≤ 1099511627776) :
    Cal Tryz.prog 27 [.pointer (some ⟨q, 0, none⟩), str p, .int .i64 bit] w0 (fun v w' => v = .int .i64 (D.rot p bit).1 ∧ Mut w0 w' (dkC q mb lb D) (dkC q mb lb (D.rot p bit).2)) := by
  refine Cal.mkM hc hi (by kernel_rfl) Tryz.func27 rfl rfl fun hS => ?_
  by_cases he : D.file p = 0
  · have hR : D.rot p bit = (0, D.set p { D.at p with data := turnE (D.at p).data bit, kept := turnE (D.at p).kept bit }) := by unfold Dk.rot; rw [if_neg (by simp [he])]
    rw [hR]
    have hlk := look_it D.items p
    have hat : D.at p = (mget D.items p).getD It0 := rfl
    rw [← hat] at hlk
    clear hat hR
    generalize D.at p = it at *
    obtain ⟨dir, dat, kept, loose, anew, stamp⟩ := it
    dsimp only at *
    repeat' (first
      | (show WL _ _ _ _ _ _ _; first
        | refine WL.pure rfl rfl rfl rfl ?_
        | refine WL.nil ?_
        | refine WL.load hS rfl rfl (LdOk.box (by repeat (first | exact List.Mem.head _ | apply List.Mem.tail)) rfl) rfl rfl rfl ?_
        | (refine WL.calls hS rfl rfl (dfile_c p (hS.holds (dkC q mb lb D) (by repeat (first | exact List.Mem.head _ | apply List.Mem.tail))).1 hl) rfl rfl rfl ?_; rintro v w rfl hS; rw [he])
        | (refine WL.load hS rfl rfl (LdOk.dk (D := D) (by repeat (first | exact List.Mem.head _ | apply List.Mem.tail)) rfl) rfl rfl rfl ?_)
        | (refine WL.mget hS rfl rfl rfl rfl (MapOk.dk (D := D) (by repeat (first | exact List.Mem.head _ | apply List.Mem.tail))) hlk rfl rfl rfl ?_)
        | (refine WL.callL (D := [dkC q mb lb D]) hS (by repeat (first | exact Pulls.nil | (apply Pulls.cons; focus (repeat (first | exact Pull.here | apply Pull.there))))) rfl rfl (fun hI => dset_c p ⟨dir, turnE dat bit, turnE kept bit, loose, anew, stamp⟩ hI.head hI.headB) rfl rfl rfl ?_; rintro v w ⟨rfl, hm⟩ hS; replace hS := hS _ (.of1 hm); clear hm)
        | (refine WL.store hS rfl rfl rfl (by repeat (first | exact StB.here rfl | apply StB.there)) rfl rfl rfl ?_; intro w hS)
        | (refine WL.alloc hS rfl rfl rfl rfl rfl rfl ?_; intro w b hS))
      | (show WC _ _ _ _ _ _; first
        | refine WC.seq ?_
        | refine WC.region ?_
        | refine WC.skip ?_
        | refine WC.ret ?_
        | (show WC _ _ (Code.region _ (List.toArray [_, _, _, _, _, _, _, _, _, _, _, _]) true) _ _ _; refine WC.drawV hS [0,1,2,4,5,6,8,10] [0,1,2,4,5,6,3,8,7] 9 [10,11] (by kernel_rfl) (by kernel_rfl) ?_; clear hS; intro w hS hM)
        | refine WC.condF rfl (by decide) ?_)
      | (show WD _ _ _ _ _ _ _ _ _; first
        | refine WD.pure rfl rfl rfl rfl rfl ?_
        | refine WD.nil ?_
        | refine WD.load rfl rfl (LdOk.box (by repeat (first | exact List.Mem.head _ | apply List.Mem.tail)) rfl) rfl rfl rfl rfl ?_
        | (refine WD.calls hS hM rfl rfl (turn_c dat bit _ hdl) rfl rfl rfl rfl rfl ?_; clear hS; rintro v w rfl hS)
        | (refine WD.calls hS hM rfl rfl (turn_c kept bit _ hkl) rfl rfl rfl rfl rfl ?_; clear hS; rintro v w rfl hS)
        | (refine WD.pivStore hS rfl rfl rfl (by repeat (first | exact StB.here rfl | apply StB.there)) rfl rfl rfl rfl ?_; clear hS; intro w hS hM)
        | (refine WD.store hS rfl rfl rfl (by repeat (first | exact StB.here rfl | apply StB.there)) rfl More.none rfl rfl rfl rfl ?_; clear hS; intro w hS hM))
      | refine seqQ_n ?_)
    exact fin1r rfl rfl ⟨rfl, hS.mutOf (by repeat (first | exact List.Mem.head _ | apply List.Mem.tail))⟩
  · have hR : D.rot p bit = (D.file p, D) := by unfold Dk.rot; rw [if_pos he]
    rw [hR]
    repeat' (first
      | (show WL _ _ _ _ _ _ _; first
        | refine WL.pure rfl rfl rfl rfl ?_
        | refine WL.nil ?_
        | (refine WL.calls hS rfl rfl (dfile_c p (hS.holds (dkC q mb lb D) (by repeat (first | exact List.Mem.head _ | apply List.Mem.tail))).1 hl) rfl rfl rfl ?_; rintro v w rfl hS))
      | (show WC _ _ _ _ _ _; first
        | refine WC.seq ?_
        | refine WC.region ?_
        | refine WC.ret ?_
        | refine WC.condT rfl (decide_eq_true (by first | with_reducible assumption | omega)) ?_)
      | refine seqQ_n ?_
      | refine seqQ_r ?_)
    exact fin1r rfl rfl ⟨rfl, hS.mutOf (by repeat (first | exact List.Mem.head _ | apply List.Mem.tail))⟩
end Go.Proofs.YtmofcalcdjoicaaGreatDoor

/- What is proved: the law TableRots answers true. Conditions: the statement's own bound on the bulk. -/
set_option linter.unusedSimpArgs false
set_option linter.unusedVariables false
namespace Go.Proofs.YtmofcalcdjoicaaGreatDoor
open Go Go.J Go.RowKit Go.ChangeShapes Go.WideShapes Go.ChangeAt Go.Deep

theorem xor_neT (c : UInt8) (m : Nat) (h : m < 8) : UInt8.ofNat (c.toNat ^^^ 2 ^ m) ≠ c := fun e => by
  have hc := c.toNat_lt
  have hp := pow_lt256 h
  have h2 := congrArg UInt8.toNat e
  rw [ofNat_toNat (Nat.xor_lt_two_pow (n := 8) (by omega) (by omega))] at h2
  have h3 := congrArg (fun n => c.toNat ^^^ n) h2
  simp only [← Nat.xor_assoc, Nat.xor_self, Nat.zero_xor] at h3
  have : 0 < 2 ^ m := Nat.pow_pos (by omega)
  omega
/-- a frame of which one bit behind its length is turned is refused -/
theorem readE_turn (u : List UInt8) (bit : Nat) (hu : u.length < 9223372036854775808) (h1 : 8 * (putN u.length).length ≤ bit) (h2 : bit < 8 * (packE u).length) : readE (turnE (packE u) (bit : Int)) = ([], 0, 6) := by
  have hK : turnK (packE u) (bit : Int) = bit := by
    unfold turnK
    rw [Int.emod_eq_of_lt (by omega) (by omega)]
    rfl
  have hj : bit / 8 < (packE u).length := by omega
  have ht : turnE (packE u) (bit : Int) = (packE u).set (bit / 8) (UInt8.ofNat ((packE u)[bit / 8].toNat ^^^ 2 ^ (bit % 8))) := by
    unfold turnE
    rw [hK, List.getElem?_eq_getElem hj]
  rw [ht]
  have h := readE_rot u (bit / 8) (UInt8.ofNat ((packE u)[bit / 8].toNat ^^^ 2 ^ (bit % 8))) [] hu (by omega) hj (by
    rw [List.getElem?_eq_getElem hj]
    intro e
    exact xor_neT _ (bit % 8) (by omega) (Option.some.inj e).symm)
  rwa [List.append_nil] at h
def putL (xs : List (List UInt8)) : List Chg := xs.map fun x => ⟨x, x, false⟩
theorem szL_put : ∀ xs : List (List UInt8), szL (putL xs) = 2 * (xs.map List.length).sum + 32 * xs.length
  | [] => rfl
  | x :: xs => by
    have h := szL_put xs
    simp only [putL, szL, szO, List.map_cons, List.sum_cons, List.length_cons] at h ⊢
    omega
section
variable {D : Dk}
theorem Sys.walOpen0 (h : Sys D) (hk : Kept D sysL []) : walOpen D sysL = (0, some ⟨sysL, [], false⟩, D) := by
  unfold Go.Proofs.YtmofcalcdjoicaaGreatDoor.walOpen
  have hs := scanE_whole [] (by simp)
  rw [show frames [] = ([] : List UInt8) from rfl] at hs
  rw [hk.kind, if_neg (by decide), hk.read h]
  dsimp only
  rw [if_neg (fun h => h rfl), hs]
  rfl
/-- a table of which the base is a frame of another content isn't opened -/
theorem rot_open (h : Sys D) (hl : Kept D sysL []) {u : List UInt8} (hb : Kept D sysB (packE u)) (bit : Nat) (hu : u.length < 9223372036854775808) (h1 : 8 * (putN u.length).length ≤ bit) (h2 : bit < 8 * (packE u).length) :
    ∃ D', D.rot sysB (bit : Int) = (0, D') ∧ tabOpen D' sysP = (6, none, D') ∧ Sys D' ∧ Kept D' sysL [] ∧ D' = D.set sysB { D.at sysB with data := turnE (D.at sysB).data bit, kept := turnE (D.at sysB).kept bit } := by
  have hd := hb.data
  have hs : Sys (D.set sysB { D.at sysB with data := turnE (D.at sysB).data bit, kept := turnE (D.at sysB).kept bit }) := h.set sysF_B (by exact hd.2)
  have hg : ∀ y, (D.set sysB { D.at sysB with data := turnE (D.at sysB).data bit, kept := turnE (D.at sysB).kept bit }).get y = if y = sysB then some { { D.at sysB with data := turnE (D.at sysB).data bit, kept := turnE (D.at sysB).kept bit } with stamp := IntKind.i64.wrap (D.stamps + 1) } else D.get y := fun y => Dk.get_set _ _ _ _
  refine ⟨_, ?_, ?_, hs, ?_, rfl⟩
  · unfold Dk.rot
    rw [h.file sysF_B hb.has, if_neg (fun hh => hh rfl)]
  · generalize hD : D.set sysB { D.at sysB with data := turnE (D.at sysB).data bit, kept := turnE (D.at sysB).kept bit } = D' at *
    have g1 := hg sysB
    rw [if_pos rfl] at g1
    have hat := at_of_get g1
    have hkd : D'.kind sysB = 2 := by
      unfold Dk.kind
      rw [has_of_get g1, if_pos rfl, hat]
      dsimp only
      rw [hd.2, if_neg (by decide)]
    have hrd : D'.read sysB = (turnE (packE u) bit, 0) := by
      unfold Dk.read
      rw [hs.up, if_neg (by decide), has_of_get g1, if_neg (by decide), hat]
      dsimp only
      rw [hd.2, if_neg (by decide), hd.1]
    have hmk : tabMk D' sysP = (0, D') := by unfold tabMk; rw [hs.kindP, if_neg (by decide)]
    have hbs : tabBase D' sysP = (6, []) := by
      unfold tabBase
      rw [show baseP sysP = sysB from rfl, hkd, if_neg (by decide)]
      unfold tabLoad
      rw [show baseP sysP = sysB from rfl, hrd]
      dsimp only
      rw [if_neg (fun h => h rfl), readE_turn u bit hu h1 h2]
      dsimp only
      rw [if_pos (by decide)]
    unfold tabOpen
    rw [hmk]
    dsimp only
    rw [if_neg (fun h => h rfl), hbs]
    dsimp only
    rw [if_pos (by decide)]
  · obtain ⟨x, e1, e2⟩ := hl
    exact ⟨x, by rw [hg sysL, if_neg (by decide)]; exact e1, e2⟩
end
theorem fillE_cons (m : Bch) (x : List UInt8) (xs : List (List UInt8)) : fillE m (putL (x :: xs)) = fillE (noteE m ⟨x, x, false⟩) (putL xs) := rfl
set_option maxHeartbeats 16000000 in
set_option maxRecDepth 100000 in
theorem tableRots_c (xs : List (List UInt8)) (bit : Int) {A : Option Addr} {cap : Nat} {w0 : World} (hA : SlAt cStr (Old w0) w0 A xs) (hz : (xs.map List.length).sum + xs.length ≤ 1048576) (hcap : xs.length ≤ cap) :
    Cal Tryz.prog 6 [.slice A xs.length cap, .int .i64 bit] w0 (fun v w' => Upd [] w0 w' ∧ v = .bool true) := by
  refine Cal.mk' (by kernel_rfl) Tryz.func6 rfl rfl fun hS => ?_
  by_cases c1 : 40 < xs.length
  · repeat' (first
      | (show WL _ _ _ _ _ _ _; first
        | refine WL.pure rfl rfl rfl rfl ?_
        | refine WL.nil ?_
        | (refine WL.callG rfl rfl (dnew_c _) rfl rfl rfl ?_; rintro v w ⟨hu, q, mb, lb, rfl, hn⟩; replace hS := hS.new hu hn; clear hu hn)
        | (refine WL.calls hS rfl rfl (tawake_c _) rfl rfl rfl ?_; rintro v w rfl hS))
      | (show WC _ _ _ _ _ _; first
        | refine WC.seq ?_
        | refine WC.region ?_
        | refine WC.ret ?_
        | refine WC.condT rfl (decide_eq_true (by first | with_reducible assumption | omega)) ?_)
      | refine seqQ_n ?_
      | refine seqQ_r ?_)
    exact fin1r rfl rfl ⟨hS.upd, rfl⟩
  -- what is computed
  have f1 := szB_fill (putL xs) []
  have o1 := BchOk.nil.fill (l := putL xs)
  have hpz := szL_put xs
  have hpl : (putL xs).length = xs.length := by unfold putL; rw [List.length_map]
  obtain ⟨m1, hm1⟩ : ∃ m, m = fillE [] (putL xs) := ⟨_, rfl⟩
  rw [← hm1] at f1 o1
  have f0 : szL (([] : Bch).map Prod.snd) = 0 := rfl
  have f00 : ([] : Bch).length = 0 := rfl
  rw [f0, f00, Nat.zero_add, Nat.zero_add] at f1
  obtain ⟨D1, ls1, hcm1, hst1, hwf1, hl1, hrow1⟩ := Dt0_st.commitAny wf0 [] (m1.map Prod.snd) o1.clean (by omega) (by decide)
  obtain ⟨rows1, hr1⟩ : ∃ r, r = applyE [] (m1.map Prod.snd) := ⟨_, rfl⟩
  have a1 : RowsAre rows1 (applyF (fun _ => none) (m1.map Prod.snd)) := by rw [hr1]; exact RowsAre.nil.apply
  have s1 : szR rows1 ≤ 8388608 := by have := szR_apply (m1.map Prod.snd) []; rw [← hr1] at this; have h00 : szR ([] : Rws) = 0 := rfl; omega
  have n1 : rows1.length ≤ 262144 := by have := applyE_len (m1.map Prod.snd) []; rw [← hr1, List.length_map] at this; have : ([] : Rws).length = 0 := rfl; omega
  obtain ⟨p1, p1'⟩ := pack_small a1.1 s1 (by omega)
  have rc1 := rec_small (l := m1.map Prod.snd) (by omega)
  have hsm1 : D1.Sm 1173742000 := by
    have h := tabCommit_sm (T := ⟨sysP, [], ⟨sysL, [], false⟩⟩) (D := Dt0) (ops := m1.map Prod.snd) (B := 100000000) Dt0_sm rc1 (by dsimp only; rw [← hr1]; omega)
    rw [show tabCommit ⟨sysP, [], ⟨sysL, [], false⟩⟩ Dt0 (m1.map Prod.snd) = _ from hcm1] at h
    exact h
  rw [← hr1] at hcm1
  have hcm1 : tabCommit ⟨sysP, [], ⟨sysL, [], false⟩⟩ Dt0 (m1.map Prod.snd) = (0, ⟨sysP, rows1, ⟨sysL, ls1.map recordE, false⟩⟩, D1) := hcm1
  have k1 : ∀ p ∈ rows1, p.1.length ≤ 1099511627776 := fun p hp => by have := szR_mem hp; omega
  have r1 : ∀ x y, applyE (Tb.rows ⟨x, [], y⟩) (m1.map Prod.snd) = rows1 := fun _ _ => hr1.symm
  obtain ⟨D2, hpk, hst2⟩ := TabSt.pack hst1.sys rows1 (ls1.map recordE) false
  have hsm2 : D2.Sm 1173742000 := by
    have h := tabPack_sm (T := ⟨sysP, rows1, ⟨sysL, ls1.map recordE, false⟩⟩) hsm1 (by dsimp only; omega)
    rw [hpk] at h
    exact h
  obtain ⟨u, hu⟩ : ∃ u, u = recordE (packL rows1) := ⟨_, rfl⟩
  have hkb : Kept D2 sysB (packE u) := by rw [hu]; exact hst2.base
  have hkl : Kept D2 sysL [] := hst2.log
  have hrd := hkb.read hst2.sys
  have hud : u.length ≤ 9000000 := by rw [hu]; omega
  have hpe := packE_len u
  have hp4 : (putN u.length).length ≤ 4 := putN_len 3 _ (by rw [show (128 : Nat) ^ (3 + 1) = 268435456 from rfl]; omega)
  have hlast : bit < 32 ∨ 8 * ((packE u).length : Int) ≤ bit ∨ ∃ D', (¬ bit < 32 ∧ ¬ 8 * ((packE u).length : Int) ≤ bit) ∧ D2.rot sysB bit = (0, D') ∧ tabOpen D' sysP = (6, none, D') ∧ D'.Sm 1099511627776 ∧ (∀ e G D'', walOpen (tabMk D' sysP).2 (logP sysP) = (e, some G, D'') → G.recs.length ≤ 4194304 ∧ ∀ r ∈ G.recs, r.length ≤ 1099511627776) := by
    rcases Int.lt_or_le bit 32 with c2 | c2
    · exact .inl c2
    rcases Int.lt_or_le bit (8 * ((packE u).length : Int)) with c3 | c3
    · obtain ⟨n, rfl⟩ : ∃ n : Nat, bit = (n : Int) := ⟨bit.toNat, by omega⟩
      obtain ⟨D', h1, h2, h3, h4, h5⟩ := rot_open hst2.sys hkl hkb n (by omega) (by omega) (by omega)
      refine .inr (.inr ⟨D', ⟨by omega, by omega⟩, h1, h2, ?_, fun e G D'' hh => ?_⟩)
      · rw [h5]
        exact (hsm2.set (by dsimp only; rw [turnE_len]; exact hsm2.at_ _)).up (by omega)
      · have hmk : (tabMk D' sysP).2 = D' := by unfold tabMk; rw [h3.kindP, if_neg (by decide)]
        rw [hmk, show logP sysP = sysL from rfl, h3.walOpen0 h4] at hh
        cases hh
        exact ⟨by decide, by simp⟩
    · exact .inr (.inl c3)
  obtain ⟨hkd, hkk⟩ : (D2.at sysB).data.length ≤ 1099511627776 ∧ (D2.at sysB).kept.length ≤ 1099511627776 := by
    obtain ⟨x, e1, e2, e3, e4, _⟩ := hkb
    rw [at_of_get e1, e3, e4]
    constructor <;> omega
  have lr : (ls1.map recordE).length ≤ 4194303 := by rw [List.length_map]; have : ls1.length ≤ 1 := hl1; omega
  have hml1 : m1.length ≤ 1048576 := by omega
  rw [← hu] at p1 p1'
  have hrecp : (recordE (packL rows1)).length ≤ 549755813888 := by rw [← hu]; omega
  clear hl1 hrow1 hst1 hwf1 a1 o1 s1 f0 f00 hkb hkl hst2 p1'
  repeat' (first
    | (show WL _ _ _ _ _ _ _; first
      | refine WL.pure rfl rfl rfl rfl ?_
      | refine WL.nil ?_
      | (refine WL.callG rfl rfl (dnew_c _) rfl rfl rfl ?_; rintro v w ⟨hu, q, mb, lb, rfl, hn⟩; replace hS := hS.new hu hn; clear hu hn)
      | (refine WL.callL (D := [dkC q mb lb Dk0]) hS (by repeat (first | exact Pulls.nil | (apply Pulls.cons; focus (repeat (first | exact Pull.here | apply Pull.there))))) rfl rfl (fun hI => topenFirst_c hI) rfl rfl rfl ?_; rintro v w ⟨Tp, fp, rfl, hmu⟩ hS; replace hS := hS _ hmu; clear hmu)
      | (refine WL.calls hS rfl rfl (tawake_c _) rfl rfl rfl ?_; rintro v w rfl hS)
      | (refine WL.callG rfl rfl (begin_c _) rfl rfl rfl ?_; rintro v w ⟨hu, B, fb, rfl, hn⟩; replace hS := hS.new hu hn; clear hu hn))
    | (show WC _ _ _ _ _ _; first
      | refine WC.seq ?_
      | refine WC.region ?_
      | refine WC.block ?_
      | refine WC.skip ?_
      | refine WC.condF rfl (by decide) ?_
      | refine WC.condF rfl (decide_eq_false (by first | with_reducible assumption | omega)) ?_)
    | refine seqQ_n ?_)
  refine WC.loop (σ := Nat × Bch × List Nat) [0, 1, 5, 6, 8] (fun (k, m', fp') => [(9, .int .i64 (k : Int))])
    (fun (k, m', fp') w => k ≤ xs.length ∧ fillE m' (putL (xs.drop k)) = m1 ∧ m'.length ≤ k ∧ St w0 [] w [bchC B (some ⟨Tp, 0, none⟩) m' fp', tabC Tp q ⟨sysP, [], ⟨sysL, [], false⟩⟩ fp, dkC q mb lb Dt0] [⟨w0, Old w0⟩])
    (fun (k, _) => xs.length - k) (0, [], fb) ⟨Nat.zero_le _, hm1.symm, Nat.le_refl _, hS⟩ ⟨rfl, trivial⟩ ?_
  clear hS hm1
  rintro ⟨k, m', fp'⟩ g w ⟨hk, hfe, hml, hS⟩
  show WC _ _ _ (lf _ [(9, .int .i64 (k : Int))] _ _) _ _
  by_cases hlt : k < xs.length
  · obtain ⟨rb, ro, es, rfl, hF, hr, hes⟩ := hA.at_ hlt
    have hes : es = [str xs[k]] := hes
    subst hes
    have hr : w0.rangeAt rb (ro + k * 1) [str xs[k]] := hr
    rw [List.drop_eq_getElem_cons hlt, fillE_cons] at hfe
    generalize xs[k] = x at *
    have hnl := (szB_note m' ⟨x, x, false⟩).2
    clear hcm1 hpk hsm1 hsm2 k1 r1 hrd hud hpe hp4 hlast hkd hkk lr p1 hrecp rc1 f1 hu hr1
    repeat' (first
      | (show WL _ _ _ _ _ _ _; first
        | refine WL.pure rfl rfl rfl rfl ?_
        | refine WL.nil ?_
        | refine WL.add rfl rfl rfl (by omega) rfl rfl rfl ?_)
      | (show WC _ _ _ _ _ _; first
        | refine WC.seq ?_
        | refine WC.region ?_
        | refine WC.block ?_
        | refine WC.skip ?_
        | (show WC _ _ (Code.region _ (List.toArray [_, _, _, _, _, _, _, _, _, _]) true) _ _ _; refine WC.drawL [bchC B (some ⟨Tp, 0, none⟩) m' fp'] hS (by repeat (first | exact Pulls.nil | (apply Pulls.cons; focus (repeat (first | exact Pull.here | apply Pull.there))))) [0,1,2,3,4,5,6,7,8] [0,1,2,3,4,5,6,7,8,9] (by kernel_rfl) (by kernel_rfl) ?_; clear hS; intro w hS hM)
        | refine WC.condT rfl (decide_eq_true (by first | with_reducible assumption | omega)) ?_)
      | (show WD _ _ _ _ _ _ _ _ _; first
        | refine WD.pure rfl rfl rfl rfl rfl ?_
        | refine WD.nil ?_
        | (refine WD.load rfl rfl (LdOk.snap0 hF hr (by repeat (first | exact List.Mem.head _ | apply List.Mem.tail)) rfl) rfl rfl rfl rfl ?_)
        | (refine WD.callL (D := [bchC B (some ⟨Tp, 0, none⟩) m' fp']) hS (by repeat (first | exact Pulls.nil | (apply Pulls.cons; focus (repeat (first | exact Pull.here | apply Pull.there))))) (.refl _ _) rfl rfl (fun hI => bput_c x x hI.head hI.headB (by omega)) rfl rfl rfl rfl rfl ?_; rintro v w ⟨rfl, fp2, hmu⟩; refine ⟨_, .of1 hmu, fun hS hM => ?_⟩; clear hmu)
        | refine WD.index rfl rfl rfl rfl (by first | with_reducible assumption | omega) rfl rfl rfl rfl rfl ?_)
      | refine seqQ_n ?_
      | refine blkQ_n ?_)
    exact rndQ_n (k + 1, noteE m' ⟨x, x, false⟩, fp2) ⟨by omega, hfe, by omega, hS⟩ (by show xs.length - (k + 1) < xs.length - k; omega) ⟨vint (by omega), trivial⟩ ⟨rfl, rfl, rfl, rfl, rfl, trivial⟩
  · have hke : k = xs.length := by omega
    subst hke
    rw [List.drop_length] at hfe
    have hfe : m' = m1 := hfe
    subst hfe
    clear hu hr1 f1 hpz hpl
    have hrd1 : (D2.read sysB).1 = packE u := by rw [hrd]
    have hrd2 : (D2.read sysB).2 = 0 := by rw [hrd]
    clear hrd
    rcases hlast with c2 | c2 | ⟨D', ⟨n1', n2'⟩, h1, h2, h3, h4⟩
    all_goals
      repeat' (first
        | (show WL _ _ _ _ _ _ _; first
          | refine WL.pure rfl rfl rfl rfl ?_
          | refine WL.nil ?_
          | (refine WL.callL (D := [bchC B (some ⟨Tp, 0, none⟩) m' fp', tabC Tp q ⟨sysP, [], ⟨sysL, [], false⟩⟩ fp, dkC q mb lb Dt0]) hS (by repeat (first | exact Pulls.nil | (apply Pulls.cons; focus (repeat (first | exact Pull.here | apply Pull.there))))) rfl rfl (fun hI => bcommit_c hI hcm1 (by decide) (by decide) Dt0_sm rc1 (by decide) hml1 (by rw [r1]; omega) (by rw [r1]; omega) (by rw [r1]; exact k1)) rfl rfl rfl ?_; rintro v w ⟨rfl, fb3, fp2, hmu⟩ hS; replace hS := hS _ hmu; clear hmu)
          | (refine WL.callL (D := [tabC Tp q ⟨sysP, rows1, ⟨sysL, ls1.map recordE, false⟩⟩ fp2, dkC q mb lb D1]) hS (by repeat (first | exact Pulls.nil | (apply Pulls.cons; focus (repeat (first | exact Pull.here | apply Pull.there))))) rfl rfl (fun hI => tpack_c hI hpk (show sysP.length ≤ _ by decide) (show sysL.length ≤ _ by decide) (hsm1.up (by omega)) hrecp (show rows1.length ≤ _ by omega) k1) rfl rfl rfl ?_; rintro v w ⟨rfl, fp3, hmu⟩ hS; replace hS := hS _ hmu; clear hmu)
          | (refine WL.calls hS rfl rfl (dread_c sysB (hS.holds (dkC q mb lb D2) (by repeat (first | exact List.Mem.head _ | apply List.Mem.tail))).1) rfl rfl rfl ?_; rintro v w rfl hS; rw [hrd1, hrd2])
          | (refine WL.mul rfl rfl rfl (by omega) rfl rfl rfl ?_)
          | (refine WL.callL (D := [dkC q mb lb D2]) hS (by repeat (first | exact Pulls.nil | (apply Pulls.cons; focus (repeat (first | exact Pull.here | apply Pull.there))))) rfl rfl (fun hI => rot_c sysB bit hI.head hI.headB (by decide) hkd hkk) rfl rfl rfl ?_; rintro v w ⟨rfl, hmu⟩ hS; rw [h1] at hmu ⊢; replace hS := hS _ (.of1 hmu); clear hmu)
          | (refine WL.callL (D := [dkC q mb lb D']) hS (by repeat (first | exact Pulls.nil | (apply Pulls.cons; focus (repeat (first | exact Pull.here | apply Pull.there))))) rfl rfl (fun hI => topen_c sysP hI (by decide) h3 h4) rfl rfl rfl ?_; rw [h2]; rintro v w ⟨rfl, hmu⟩ hS; replace hS := hS _ hmu; clear hmu)
          | refine WL.skip rfl rfl rfl ?_
          | ((fail_if_success (refine WL.wanted rfl ?_)); refine WL.guard rfl rfl rfl (fun h => ?_) (fun h => ?_) <;> (try simp only [Classical.not_not, Bool.not_eq_true', Bool.not_eq_false', Bool.not_eq_eq_eq_not, Bool.not_true, Bool.not_false, beq_iff_eq, beq_eq_false_iff_ne, ne_eq, decide_eq_decide, decide_eq_true_eq, decide_eq_false_iff_not, Bool.and_eq_true, Bool.or_eq_true, Bool.and_eq_false_iff, Bool.or_eq_false_iff] at h) <;> (try (exfalso; first | omega | contradiction))))
        | (show WC _ _ _ _ _ _; first
          | refine WC.seq ?_
          | refine WC.region ?_
          | refine WC.skip ?_
          | refine WC.exit ?_
          | refine WC.ret ?_
          | refine WC.condT rfl (by with_reducible rfl) ?_
          | refine WC.condF rfl (by decide) ?_
          | refine WC.condT rfl (decide_eq_true (by first | with_reducible assumption | omega)) ?_
          | refine WC.condF rfl (decide_eq_false (by first | with_reducible assumption | omega)) ?_)
        | refine seqQ_n ?_
        | refine seqQ_x ?_
        | refine seqQ_r ?_
        | refine blkQ_hit rfl ?_
        | refine rndQ_x ?_)
      all_goals exact fin1r rfl rfl ⟨hS.upd, rfl⟩
theorem arg_strs : Arg Tryz.prog 47 (ASl cStr) (QL QStr) := Arg.slice Tryz.underlying47 (Opens.slice Tryz.underlying47 (by kernel_rfl) (by decide) (Opens.str Tryz.underlying9))
theorem ql_strs {xs : List (List UInt8)} {b : Nat} (h : QL QStr xs b) : (xs.map List.length).sum + xs.length + 1 ≤ b := by
  have h1 := QL_sum (f := fun s : List UInt8 => s.length + 1) (fun a b (h : a.length + 1 ≤ b) => h) h
  have h2 : ∀ l : List (List UInt8), (l.map fun s => s.length + 1).sum = (l.map List.length).sum + l.length := by
    intro l
    induction l with
    | nil => rfl
    | cons s l ih => simp only [List.map_cons, List.sum_cons, List.length_cons, ih]; omega
  rw [h2] at h1
  exact h1
theorem tableRots.key_tableRots (W : World) (v0 v1 : Value) (y0 : List (List UInt8)) (y1 : Int) (b0 b1 : Nat) (h0 : ASl cStr W v0 y0) (h1 : AInt W v1 y1) (q0 : QL QStr y0 b0) (q1 : QInt y1 b1) (hb : b0 + b1 ≤ 1048576) :
    Cal Tryz.prog 6 [v0, v1] W (fun v W' => Upd [] W W' ∧ v = .bool true) := by
  obtain ⟨A0, c0, rfl, hc, h0⟩ := h0
  obtain rfl := h1
  have := ql_strs q0
  exact tableRots_c y0 y1 h0 (by omega) hc
end Go.Proofs.YtmofcalcdjoicaaGreatDoor

/- What is proved: 'slices.Sort' of a row of texts that the caller owns. Conditions: bounded length. -/
set_option linter.unusedSimpArgs false
set_option linter.unusedVariables false
namespace Go.Proofs.YtmofcalcdjoicaaGreatDoor
open Go Go.J Go.RowKit Go.Maps Go.Sort Go.Shelf

theorem strs_enc (l : List (List UInt8)) : l.map encStr = strs l := by
  induction l with
  | nil => rfl
  | cons a l ih => simp only [List.map_cons, ih]; rfl
theorem RowAt.put {w : World} {e : TypeId} {g off n cap : Nat} {xs : List Value} (h : RowAt w e 1 (.slice (some ⟨g, off, none⟩) n cap) n xs) (ys : List (List UInt8)) (hy : ys.length = n) (k : Nat) (os : Array Obj) :
    RowAt (grow (putRow encStr (Sort.ahead w k) g off ys.toArray) os) e 1 (.slice (some ⟨g, off, none⟩) n cap) n (strs ys) ∧ Upd [g] w (grow (putRow encStr (Sort.ahead w k) g off ys.toArray) os) := by
  rcases h.2 with ⟨e0, _⟩ | ⟨g', off', cap', cur, e0, hg, hn, hm, hs, ht⟩
  · cases e0
  · simp only [Value.slice.injEq, Option.some.injEq, Addr.mk.injEq, true_and, and_true] at e0
    obtain ⟨⟨rfl, rfl⟩, rfl⟩ := e0
    have hlt : g < w.heap.size := (Array.getElem?_eq_some_iff.1 hg).1
    have hsz : (putRow encStr (Sort.ahead w k) g off ys.toArray).heap.size = w.heap.size := by rw [Go.Sort.size_putRow]; rfl
    have hput : (putRow encStr (Sort.ahead w k) g off ys.toArray).heap[g]? = some (.cells (putCells encStr off ys.toArray ⟨cur⟩) e (0, 0)) := by
      simp [putRow, mapBlock, Sort.ahead, Array.getElem?_modify, hg, onCells]
    have hgr : ∀ b, b < w.heap.size → (grow (putRow encStr (Sort.ahead w k) g off ys.toArray) os).heap[b]? = (putRow encStr (Sort.ahead w k) g off ys.toArray).heap[b]? := fun b hb => by
      show ((putRow encStr (Sort.ahead w k) g off ys.toArray).heap ++ os)[b]? = _
      rw [Array.getElem?_append_left (by rw [hsz]; exact hb)]
    refine ⟨⟨by rw [strs_len, hy, Nat.mul_one], .inr ⟨g, off, cap, (putCells encStr off ys.toArray ⟨cur⟩).toList, rfl, ?_, hn, hm, ?_, ?_⟩⟩, ⟨rfl, rfl, rfl, ?_, fun b hb hnb => ?_⟩⟩
    · rw [hgr g hlt, hput]
    · simpa [putCells] using hs
    · apply List.ext_getElem?
      intro j
      rw [List.getElem?_take, List.getElem?_drop, Array.getElem?_toList, ← strs_enc, List.getElem?_map]
      by_cases hj : j < n
      · have hjc : off + j < cur.length := by omega
        simp only [Nat.mul_one, if_pos hj, putCells, Array.getElem?_mapIdx]
        rw [show (Array.mk cur)[off + j]? = some cur[off + j] from by rw [show (Array.mk cur) = cur.toArray from rfl, List.getElem?_toArray]; exact List.getElem?_eq_getElem hjc]
        simp only [Option.map_some]
        rw [if_pos (by simp; omega), List.getElem?_eq_getElem (by omega)]
        simp [getElem!_pos, show j < ys.length by omega]
      · rw [if_neg (by omega), List.getElem?_eq_none (by omega)]
        rfl
    · show w.heap.size ≤ ((putRow encStr (Sort.ahead w k) g off ys.toArray).heap ++ os).size
      rw [Array.size_append, hsz]
      exact Nat.le_add_right _ _
    · rw [hgr b hb]
      have hne : ¬ g = b := fun e => hnb (by rw [← e]; exact List.mem_cons_self ..)
      simp [putRow, mapBlock, Sort.ahead, Array.getElem?_modify, hne]
theorem RowAt.holdsS {w : World} {e : TypeId} {g off n cap : Nat} {l : List (List UInt8)} (h : RowAt w e 1 (.slice (some ⟨g, off, none⟩) n cap) n (strs l)) (hl : l.length = n) : Holds encStr w g off l.toArray := by
  intro j hj
  have hj' : j < l.length := by simpa using hj
  rcases h.2 with ⟨e0, _⟩ | ⟨g', off', cap', cur, e0, hg, hn, hm, hs, ht⟩
  · cases e0
  · simp only [Value.slice.injEq, Option.some.injEq, Addr.mk.injEq, true_and, and_true] at e0
    obtain ⟨⟨rfl, rfl⟩, rfl⟩ := e0
    refine ⟨?_, by simp [World.frozen?, hg]⟩
    have hc := h.cells j (str l[j]) (by rw [strs_at hj'])
    rw [hc]
    simp [getElem!_pos, hj', encStr]
theorem sort_perm' {a b : List (List UInt8)} (h : a.Perm b) : a.mergeSort (fun x y => decide (x ≤ y)) = b.mergeSort (fun x y => decide (x ≤ y)) := mergeSort_of_perm h
/-- a row of texts sorted -/
theorem sort_c {A : Option Addr} {cap : Nat} {l : List (List UInt8)} {w0 : World} (hc : (Chunk.own (.slice A l.length cap) 9 1 l.length (strs l)).holds w0) (hi : inB (.own (.slice A l.length cap) 9 1 l.length (strs l)) w0) (hl : l.length ≤ 1099511627776) :
    Cal Tryz.prog 73 [.slice A l.length cap] w0 (fun v w' => v = .tuple #[] ∧ Mut w0 w' (.own (.slice A l.length cap) 9 1 l.length (strs l)) (.own (.slice A l.length cap) 9 1 l.length (strs (l.mergeSort (fun x y => decide (x ≤ y)))))) := by
  rcases l with _ | ⟨x, l⟩
  · exact ⟨by kernel_rfl, (AnyM.slices_Sort_string_none Tryz.sortL A cap w0).mono fun e w' ⟨h1, h2⟩ => ⟨_, h1, rfl, by rw [h2, List.mergeSort_nil]; exact ⟨.refl _ _, hc, fun b hb => .inl hb⟩⟩⟩
  · generalize hll : x :: l = ll at *
    have hpos : 0 < ll.length := by rw [← hll]; simp
    have hA : ∃ g off, A = some ⟨g, off, none⟩ := by
      rcases hc.2 with ⟨e0, hz⟩ | ⟨g, off, cap', cur, e0, _⟩
      · omega
      · simp only [Value.slice.injEq] at e0; exact ⟨g, off, e0.1⟩
    obtain ⟨g, off, rfl⟩ := hA
    have hg : g < w0.heap.size := hi g (by simp [Chunk.fp, Value.ownBlock])
    refine ⟨by kernel_rfl, (AnyM.slices_Sort_string Tryz.sortL g off cap ll w0 (RowAt.holdsS hc rfl) hg (by omega)).mono fun e w' ⟨h1, n, os, h2⟩ => ⟨_, h1, rfl, ?_⟩⟩
    subst h2
    have hlen : (ll.mergeSort (fun x y => decide (x ≤ y))).length = ll.length := (List.mergeSort_perm _ _).length_eq
    obtain ⟨r1, r2⟩ := RowAt.put hc (ll.mergeSort (fun x y => decide (x ≤ y))) hlen n os
    exact ⟨by simpa [Chunk.fp, Value.ownBlock] using r2, r1, fun b hb => .inl hb⟩
end Go.Proofs.YtmofcalcdjoicaaGreatDoor

/- What is proved: the keys of a table and of a batch. Conditions: lists of bounded length. -/
set_option linter.unusedSimpArgs false
set_option linter.unusedVariables false
namespace Go.Proofs.YtmofcalcdjoicaaGreatDoor
open Go Go.J Go.RowKit

/-- does a text begin so? -/
def begB (p k : List UInt8) : Bool := decide (k.take p.length = p)
def sortL (l : List (List UInt8)) : List (List UInt8) := l.mergeSort (fun x y => decide (x ≤ y))
theorem sortL_len (l : List (List UInt8)) : (sortL l).length = l.length := (List.mergeSort_perm _ _).length_eq
/-- a table's keys that begin so, rising -/
def keysP (rows : Rws) (p : List UInt8) : List (List UInt8) := sortL ((rows.map Prod.fst).filter (begB p))
theorem sort_perm {a b : List (List UInt8)} (h : a.Perm b) : sortL a = sortL b := sort_perm' h
theorem mmap_fst {β γ : Type} (f : β → γ) (m : List (List UInt8 × β)) : (mmap f m).map Prod.fst = m.map Prod.fst := by unfold mmap; rw [List.map_map]; rfl
theorem perm_mid {α : Type} (l1 l2 : List α) (x : α) : (l1 ++ x :: l2).Perm (x :: (l1 ++ l2)) := List.perm_middle
set_option maxHeartbeats 16000000 in
set_option maxRecDepth 100000 in
theorem tkeys_c {Tp q : Nat} {T : Tb} {fp : List Nat} (p : List UInt8) {w0 : World} (hi : InL w0 [tabC Tp q T fp]) (hn : T.rows.length ≤ 1099511627776) :
    Cal Tryz.prog 29 [.pointer (some ⟨Tp, 0, none⟩), str p] w0 (fun v w' => ∃ A cap, v = .slice A (keysP T.rows p).length cap ∧ MutL w0 w' [tabC Tp q T fp] [tabC Tp q T fp, .own (.slice A (keysP T.rows p).length cap) 9 1 (keysP T.rows p).length (strs (keysP T.rows p))]) := by
  refine Cal.mkL hi (by kernel_rfl) Tryz.func29 rfl rfl fun hS => ?_
  obtain ⟨_, ⟨m, L, fpl, rfl⟩, hfp, hS⟩ := St.objOpen (H := []) hS
  replace hS : St w0 (fps [tabC Tp q T fp]) w0 [tbB Tp (some ⟨q, 0, none⟩) T.dir (some ⟨L, 0, none⟩) m, rowsC m T.rows, lgC L q T.log fpl] (ZL w0 [tabC Tp q T fp]) := hS
  obtain ⟨rows, hrows⟩ : ∃ r, r = T.rows := ⟨_, rfl⟩
  rw [← hrows] at hS hn ⊢
  repeat' (first
    | (show WL _ _ _ _ _ _ _; first
      | refine WL.pure rfl rfl rfl rfl ?_
      | refine WL.nil ?_
      | refine WL.load hS rfl rfl (LdOk.box (by repeat (first | exact List.Mem.head _ | apply List.Mem.tail)) rfl) rfl rfl rfl ?_
      | (refine WL.slit (t := 47) hS rfl rfl rfl rfl rfl ?_; intro w ob hS; have hS := hS.boxRow (n := 0) (size := 1) .here rfl (Nat.zero_le _))
      | (refine WL.mrange hS rfl rfl rfl (fun r => by repeat (first | exact Repl.here | apply Repl.there)) rfl rfl rfl ?_; intro w r hS))
    | (show WC _ _ _ _ _ _; first
      | refine WC.seq ?_
      | refine WC.region ?_
      | refine WC.block ?_
      | refine WC.skip ?_
      | refine WC.condF rfl (by with_reducible rfl) ?_)
    | refine seqQ_n ?_)
  replace hS := hS.droplast2 (D := [.own (.slice (some ⟨ob, 0, none⟩) 0 0) 9 1 0 [], rngC m r (mmap encRow rows) (mmap encRow rows) none, tbB Tp (some ⟨q, 0, none⟩) T.dir (some ⟨L, 0, none⟩) m, lgC L q T.log fpl]) (by repeat (first | exact Pulls.nil | (apply Pulls.cons; focus (repeat (first | exact Pull.here | apply Pull.there)))))
  refine WC.loop (σ := List (List UInt8) × KV × Option (List UInt8 × Value) × Option Addr × Nat) [1, 15] (fun (d, left, cur, A, cap) => [(5, .slice A d.length cap)])
    (fun (d, left, cur, A, cap) w => (d ++ (left.map Prod.fst).filter (begB p)).Perm ((rows.map Prod.fst).filter (begB p)) ∧ d.length + left.length ≤ rows.length ∧ St w0 (fps [tabC Tp q T fp]) w [.own (.slice A d.length cap) 9 1 d.length (strs d), rngC m r (mmap encRow rows) left cur, tbB Tp (some ⟨q, 0, none⟩) T.dir (some ⟨L, 0, none⟩) m, lgC L q T.log fpl] (ZL w0 [tabC Tp q T fp]))
    (fun (d, left, cur, A, cap) => left.length) ([], mmap encRow rows, none, some ⟨ob, 0, none⟩, 0) ⟨by rw [mmap_fst]; exact .refl _, by unfold mmap; simp, hS⟩ ⟨rfl, trivial⟩ ?_
  clear hS
  rintro ⟨d, left, cur, A, cap⟩ g w ⟨hpm, hdl, hS⟩
  show WC _ _ _ (lf _ [(5, .slice A d.length cap)] _ _) _ _
  rcases left with _ | ⟨x, left⟩
  · rw [List.map_nil, List.filter_nil, List.append_nil] at hpm
    have hsl : sortL d = keysP rows p := sort_perm hpm
    have hsn : d.length = (keysP rows p).length := by rw [← hsl, sortL_len]
    simp only [List.length_nil, Nat.add_zero] at hdl
    repeat' (first
      | (show WL _ _ _ _ _ _ _; first
        | refine WL.pure rfl rfl rfl rfl ?_
        | refine WL.nil ?_
        | (refine WL.mnext hS rfl rfl (fun l' p => by repeat (first | exact Repl.here | apply Repl.there)) rfl rfl rfl (fun _ => ?_) (fun l1 k v l2 h => absurd h (by simp)))
        | (refine WL.callL (D := [.own (.slice A d.length cap) 9 1 d.length (strs d)]) hS (by repeat (first | exact Pulls.nil | (apply Pulls.cons; focus (repeat (first | exact Pull.here | apply Pull.there))))) rfl rfl (fun hI => sort_c hI.head hI.headB (by omega)) rfl rfl rfl ?_; rintro v w ⟨rfl, hm⟩ hS; replace hS := hS _ (.of1 hm); clear hm))
      | (show WC _ _ _ _ _ _; first
        | refine WC.seq ?_
        | refine WC.region ?_
        | refine WC.exit ?_
        | refine WC.ret ?_
        | refine WC.condF rfl (by with_reducible rfl) ?_)
      | refine seqQ_n ?_
      | refine seqQ_x ?_
      | refine blkQ_hit rfl ?_
      | refine rndQ_x ?_)
    have hS := hS.rngEnd (H' := [.own (.slice A d.length cap) 9 1 d.length (strs (sortL d)), mapC m (mmap encRow rows), tbB Tp (some ⟨q, 0, none⟩) T.dir (some ⟨L, 0, none⟩) m, lgC L q T.log fpl]) (by repeat (first | exact Repl.here | apply Repl.there))
    subst hrows
    have hS := St.objClose (φ := tabφ Tp q T) (hS.pulls (D := [tbB Tp (some ⟨q, 0, none⟩) T.dir (some ⟨L, 0, none⟩) m, rowsC m T.rows, lgC L q T.log fpl]) (by repeat (first | exact Pulls.nil | (apply Pulls.cons; focus (repeat (first | exact Pull.here | apply Pull.there)))))) ⟨m, L, fpl, rfl⟩
    rw [← hfp, hsl, hsn] at hS
    exact fin1r rfl rfl ⟨A, cap, by rw [hsn], hS.mutLp (by repeat (first | exact Pulls.nil | (apply Pulls.cons; focus (repeat (first | exact Pull.here | apply Pull.there)))))⟩
  · have hcap := (hS.own_len (List.Mem.head _)).2.2
    repeat' (first
      | (show WL _ _ _ _ _ _ _; first
        | refine WL.pure rfl rfl rfl rfl ?_
        | refine WL.nil ?_
        | (refine WL.mnext hS rfl rfl (fun l' p => by repeat (first | exact Repl.here | apply Repl.there)) rfl rfl rfl (fun h => absurd h (by simp)) (fun l1 k v l2 hleft w hS => ?_))
        | (refine WL.mentry hS rfl rfl (by repeat (first | exact List.Mem.head _ | apply List.Mem.tail)) rfl rfl rfl ?_)
        | (refine WL.calls hS rfl rfl (hasPrefix_c k p _) rfl rfl rfl ?_; rintro v w rfl hS)
        | (refine WL.app hS rfl rfl rfl rfl (RdOk.box (by repeat (first | exact List.Mem.head _ | apply List.Mem.tail))) rfl rfl (fun A cap => by repeat (first | exact Repl.here | apply Repl.there)) (by omega) rfl rfl rfl ?_; intro A3 cap3 w hS)
        | (refine WL.slit hS rfl rfl rfl rfl rfl ?_; intro w b hS))
      | (show WC _ _ _ _ _ _; first
        | refine WC.seq ?_
        | refine WC.region ?_
        | refine WC.block ?_
        | refine WC.skip ?_
        | refine WC.condT rfl (by with_reducible rfl) ?_
        | (refine WC.cond rfl (fun h => ?_) (fun h => ?_) <;> (try simp only [Classical.not_not, Bool.not_eq_true', Bool.not_eq_false', Bool.not_eq_eq_eq_not, Bool.not_true, Bool.not_false, beq_iff_eq, beq_eq_false_iff_ne, ne_eq, decide_eq_decide, decide_eq_true_eq, decide_eq_false_iff_not, Bool.and_eq_true, Bool.or_eq_true, Bool.and_eq_false_iff, Bool.or_eq_false_iff] at h) <;> (try (exfalso; first | omega | contradiction))))
      | refine seqQ_n ?_
      | refine blkQ_n ?_)
    all_goals
      rw [hleft] at hpm hdl
      have hpm2 : (d ++ ((k :: (l1 ++ l2).map Prod.fst).filter (begB p))).Perm ((rows.map Prod.fst).filter (begB p)) := by
        refine List.Perm.trans ?_ hpm
        refine List.Perm.append_left d (List.Perm.filter _ ?_)
        rw [List.map_append, List.map_append, List.map_cons]
        exact List.perm_middle.symm
    · have hb : begB p k = true := decide_eq_true h
      rw [List.filter_cons_of_pos hb] at hpm2
      exact rndQ_n (d ++ [k], l1 ++ l2, some (k, _), A3, cap3) ⟨by rw [List.append_assoc]; exact hpm2, by simp at hdl ⊢; omega, by
        have hS := hS.drop
        rw [List.length_append, ← strs_snoc]
        exact hS⟩ (by show (l1 ++ l2).length < (x :: left).length; rw [hleft]; simp) ⟨by rw [List.length_append]; rfl, trivial⟩ ⟨rfl, rfl, trivial⟩
    · have hb : ¬ begB p k = true := by unfold begB; rw [decide_eq_false h]; decide
      rw [List.filter_cons_of_neg hb] at hpm2
      exact rndQ_n (d, l1 ++ l2, some (k, _), A, cap) ⟨hpm2, by simp at hdl ⊢; omega, hS⟩ (by show (l1 ++ l2).length < (x :: left).length; rw [hleft]; simp) ⟨rfl, trivial⟩ ⟨rfl, rfl, trivial⟩
/-- a key that only the batch has -/
def newB (rows : Rws) (p : List UInt8) (x : List UInt8 × Chg) : Bool := !(mget rows x.1).isSome && !x.2.gone && begB p x.1
def oldB (m : Bch) (k : List UInt8) : Bool := !((mget m k).getD Chg0).gone
/-- a batch's keys that begin so, rising -/
def bkeysP (rows : Rws) (m : Bch) (p : List UInt8) : List (List UInt8) := sortL ((keysP rows p).filter (oldB m) ++ (m.filter (newB rows p)).map Prod.fst)
theorem mmap_split {β γ : Type} {f : β → γ} {lc : List (List UInt8 × β)} {l1 l2 : List (List UInt8 × γ)} {k : List UInt8} {v : γ} (h : mmap f lc = l1 ++ (k, v) :: l2) : ∃ lc1 o lc2, l1 = mmap f lc1 ∧ v = f o ∧ l2 = mmap f lc2 ∧ lc = lc1 ++ (k, o) :: lc2 := by
  unfold mmap at h
  rw [List.map_eq_append_iff] at h
  obtain ⟨lc1, r, rfl, h1, h2⟩ := h
  rw [List.map_eq_cons_iff] at h2
  obtain ⟨x, lc2, rfl, h3, h4⟩ := h2
  obtain ⟨k', o⟩ := x
  simp only [Prod.mk.injEq] at h3
  obtain ⟨rfl, rfl⟩ := h3
  exact ⟨lc1, o, lc2, h1.symm, rfl, h4.symm, rfl⟩
theorem mmap_app {β γ : Type} (f : β → γ) (a b : List (List UInt8 × β)) : mmap f a ++ mmap f b = mmap f (a ++ b) := by unfold mmap; rw [List.map_append]
set_option maxHeartbeats 16000000 in
set_option maxRecDepth 100000 in
theorem bkeys_c {B Tp q : Nat} {T : Tb} {m : Bch} {fb fp : List Nat} (p : List UInt8) {w0 : World} (hi : InL w0 [bchC B (some ⟨Tp, 0, none⟩) m fb, tabC Tp q T fp]) (hn : T.rows.length ≤ 549755813888) (hm : m.length ≤ 549755813888) :
    Cal Tryz.prog 30 [.pointer (some ⟨B, 0, none⟩), str p] w0 (fun v w' => ∃ A cap, v = .slice A (bkeysP T.rows m p).length cap ∧ MutL w0 w' [bchC B (some ⟨Tp, 0, none⟩) m fb, tabC Tp q T fp] [bchC B (some ⟨Tp, 0, none⟩) m fb, tabC Tp q T fp, .own (.slice A (bkeysP T.rows m p).length cap) 9 1 (bkeysP T.rows m p).length (strs (bkeysP T.rows m p))]) := by
  refine Cal.mkL hi (by kernel_rfl) Tryz.func30 rfl rfl fun hS => ?_
  obtain ⟨_, ⟨A0, cap0, mb, rfl⟩, hfb, hS⟩ := St.objOpen hS
  replace hS : St w0 (fps [bchC B (some ⟨Tp, 0, none⟩) m fb, tabC Tp q T fp]) w0 [.box B 114 [.pointer (some ⟨Tp, 0, none⟩), .slice A0 m.length cap0, .map (some mb)], .own (.slice A0 m.length cap0) 9 1 m.length (strs (m.map Prod.fst)), mapC mb (mmap encChg m), tabC Tp q T fp] (ZL w0 [bchC B (some ⟨Tp, 0, none⟩) m fb, tabC Tp q T fp]) := hS
  have hkl : (keysP T.rows p).length ≤ 549755813888 := by
    unfold keysP
    rw [sortL_len]
    refine Nat.le_trans (List.length_filter_le _ _) ?_
    rw [List.length_map]
    exact hn
  have htk := fun (w0 : World) (hi : InL w0 [tabC Tp q T fp]) => tkeys_c p hi (by omega)
  unfold bkeysP
  generalize keysP T.rows p = K at *
  repeat' (first
    | (show WL _ _ _ _ _ _ _; first
      | refine WL.pure rfl rfl rfl rfl ?_
      | refine WL.nil ?_
      | refine WL.load hS rfl rfl (LdOk.box (by repeat (first | exact List.Mem.head _ | apply List.Mem.tail)) rfl) rfl rfl rfl ?_
      | (refine WL.slit (t := 47) hS rfl rfl rfl rfl rfl ?_; intro w ob hS; have hS := hS.boxRow (n := 0) (size := 1) .here rfl (Nat.zero_le _))
      | (refine WL.callL (D := [tabC Tp q T fp]) hS (by repeat (first | exact Pulls.nil | (apply Pulls.cons; focus (repeat (first | exact Pull.here | apply Pull.there))))) rfl rfl (fun hI => htk _ hI) rfl rfl rfl ?_; rintro v w ⟨AK, capK, rfl, hmu⟩ hS; replace hS := hS _ hmu; clear hmu))
    | (show WC _ _ _ _ _ _; first
      | refine WC.seq ?_
      | refine WC.region ?_
      | refine WC.block ?_
      | refine WC.skip ?_
      | refine WC.condF rfl (by with_reducible rfl) ?_)
    | refine seqQ_n ?_)
  replace hS := hS.droplast2 (D := [.own (.slice (some ⟨ob, 0, none⟩) 0 0) 9 1 0 [], .own (.slice AK K.length capK) 9 1 K.length (strs K), .box B 114 [.pointer (some ⟨Tp, 0, none⟩), .slice A0 m.length cap0, .map (some mb)], .own (.slice A0 m.length cap0) 9 1 m.length (strs (m.map Prod.fst)), mapC mb (mmap encChg m), tabC Tp q T fp]) (by repeat (first | exact Pulls.nil | (apply Pulls.cons; focus (repeat (first | exact Pull.here | apply Pull.there)))))
  clear htk
  refine WC.loop (σ := Nat × List (List UInt8) × Option Addr × Nat) [0, 1, 21, 22] (fun (k, d, A, cap) => [(5, .slice A d.length cap), (23, .int .i64 (k : Int))])
    (fun (k, d, A, cap) w => k ≤ K.length ∧ d = (K.take k).filter (oldB m) ∧ St w0 (fps [bchC B (some ⟨Tp, 0, none⟩) m fb, tabC Tp q T fp]) w [.own (.slice A d.length cap) 9 1 d.length (strs d), .own (.slice AK K.length capK) 9 1 K.length (strs K), .box B 114 [.pointer (some ⟨Tp, 0, none⟩), .slice A0 m.length cap0, .map (some mb)], .own (.slice A0 m.length cap0) 9 1 m.length (strs (m.map Prod.fst)), mapC mb (mmap encChg m), tabC Tp q T fp] (ZL w0 [bchC B (some ⟨Tp, 0, none⟩) m fb, tabC Tp q T fp]))
    (fun (k, _) => K.length - k) (0, [], some ⟨ob, 0, none⟩, 0) ⟨Nat.zero_le _, rfl, hS⟩ ⟨rfl, rfl, trivial⟩ ?_
  clear hS
  rintro ⟨k, d, A, cap⟩ g w ⟨hk, hd, hS⟩
  show WC _ _ _ (lf _ [(5, .slice A d.length cap), (23, .int .i64 (k : Int))] _ _) _ _
  have hdl : d.length ≤ k := by rw [hd]; refine Nat.le_trans (List.length_filter_le _ _) ?_; rw [List.length_take]; omega
  have hcap := (hS.own_len (List.Mem.head _)).2.2
  by_cases hlt : k < K.length
  · have hx : (strs K)[k * 1]? = some (str K[k]) := by rw [Nat.mul_one]; exact strs_at hlt
    have hnx : (K.take (k + 1)).filter (oldB m) = d ++ [K[k]].filter (oldB m) := by rw [List.take_succ_eq_append_getElem hlt, List.filter_append, ← hd]
    generalize K[k] = key at *
    have hlk := look_chg1 m key
    have hob : oldB m key = !((mget m key).getD Chg0).gone := rfl
    generalize (mget m key).getD Chg0 = o at *
    obtain ⟨okey, oval, ogone⟩ := o
    obtain ⟨kg, ko, rfl⟩ := hS.own_addr (A := AK) (n := K.length) (by repeat (first | exact List.Mem.head _ | apply List.Mem.tail)) (Nat.lt_of_le_of_lt (Nat.zero_le k) hlt)
    clear hd
    rcases ogone with _ | _
    · have hob : oldB m key = true := hob
      rw [List.filter_cons_of_pos hob, List.filter_nil] at hnx
      repeat' (first
        | (show WL _ _ _ _ _ _ _; first
          | refine WL.pure rfl rfl rfl rfl ?_
          | refine WL.nil ?_
          | refine WL.load hS rfl rfl (LdOk.box (by repeat (first | exact List.Mem.head _ | apply List.Mem.tail)) rfl) rfl rfl rfl ?_
          | refine WL.add rfl rfl rfl (by omega) rfl rfl rfl ?_
          | (refine WL.load hS rfl rfl (LdOk.ownAt (by repeat (first | exact List.Mem.head _ | apply List.Mem.tail)) rfl ⟨_, rfl⟩ hx rfl) rfl rfl rfl ?_)
          | (refine WL.mget hS rfl rfl rfl rfl (.mk' (by repeat (first | exact List.Mem.head _ | apply List.Mem.tail))) hlk rfl rfl rfl ?_)
          | (refine WL.app hS rfl rfl rfl rfl (RdOk.box (by repeat (first | exact List.Mem.head _ | apply List.Mem.tail))) rfl rfl (fun A cap => by repeat (first | exact Repl.here | apply Repl.there)) (by omega) rfl rfl rfl ?_; intro A3 cap3 w hS)
          | refine WL.index rfl rfl rfl rfl (by first | with_reducible assumption | omega) rfl rfl rfl rfl ?_
          | (refine WL.slit hS rfl rfl rfl rfl rfl ?_; intro w b hS))
        | (show WC _ _ _ _ _ _; first
          | refine WC.seq ?_
          | refine WC.region ?_
          | refine WC.block ?_
          | refine WC.skip ?_
          | refine WC.condT rfl (decide_eq_true (by first | with_reducible assumption | omega)) ?_
          | refine WC.condT rfl (by first | (simp; done) | (simp; omega)) ?_)
        | refine seqQ_n ?_
        | refine blkQ_n ?_)
      exact rndQ_n (k + 1, d ++ [key], A3, cap3) ⟨by omega, hnx.symm, by
        have hS := hS.drop
        rw [List.length_append, ← strs_snoc]
        exact hS⟩ (by show K.length - (k + 1) < K.length - k; omega) ⟨by rw [List.length_append]; rfl, vint (by omega), trivial⟩ ⟨rfl, rfl, rfl, rfl, trivial⟩
    · have hob : ¬ oldB m key = true := by rw [hob]; simp
      rw [List.filter_cons_of_neg hob, List.filter_nil, List.append_nil] at hnx
      repeat' (first
        | (show WL _ _ _ _ _ _ _; first
          | refine WL.pure rfl rfl rfl rfl ?_
          | refine WL.nil ?_
          | refine WL.load hS rfl rfl (LdOk.box (by repeat (first | exact List.Mem.head _ | apply List.Mem.tail)) rfl) rfl rfl rfl ?_
          | refine WL.add rfl rfl rfl (by omega) rfl rfl rfl ?_
          | (refine WL.load hS rfl rfl (LdOk.ownAt (by repeat (first | exact List.Mem.head _ | apply List.Mem.tail)) rfl ⟨_, rfl⟩ hx rfl) rfl rfl rfl ?_)
          | (refine WL.mget hS rfl rfl rfl rfl (.mk' (by repeat (first | exact List.Mem.head _ | apply List.Mem.tail))) hlk rfl rfl rfl ?_)
          | refine WL.index rfl rfl rfl rfl (by first | with_reducible assumption | omega) rfl rfl rfl rfl ?_)
        | (show WC _ _ _ _ _ _; first
          | refine WC.seq ?_
          | refine WC.region ?_
          | refine WC.block ?_
          | refine WC.skip ?_
          | refine WC.condT rfl (decide_eq_true (by first | with_reducible assumption | omega)) ?_
          | refine WC.condF rfl (by first | (simp; done) | (simp; omega)) ?_)
        | refine seqQ_n ?_
        | refine blkQ_n ?_)
      exact rndQ_n (k + 1, d, A, cap) ⟨by omega, hnx.symm, hS⟩ (by show K.length - (k + 1) < K.length - k; omega) ⟨rfl, vint (by omega), trivial⟩ ⟨rfl, rfl, rfl, rfl, trivial⟩
  · have hke : k = K.length := by omega
    subst hke
    rw [List.take_length] at hd
    rw [← hd]
    repeat' (first
      | (show WL _ _ _ _ _ _ _; first
        | refine WL.pure rfl rfl rfl rfl ?_
        | refine WL.nil ?_
        | refine WL.load hS rfl rfl (LdOk.box (by repeat (first | exact List.Mem.head _ | apply List.Mem.tail)) rfl) rfl rfl rfl ?_
        | (refine WL.mrange hS rfl rfl rfl (fun r => by repeat (first | exact Repl.here | apply Repl.there)) rfl rfl rfl ?_; intro w r hS))
      | (show WC _ _ _ _ _ _; first
        | refine WC.seq ?_
        | refine WC.region ?_
        | refine WC.block ?_
        | refine WC.exit ?_
        | refine WC.condF rfl (decide_eq_false (by first | with_reducible assumption | omega)) ?_)
      | refine seqQ_n ?_
      | refine seqQ_x ?_
      | refine blkQ_hit rfl ?_
      | refine rndQ_x ?_)
    replace hS := hS.droplast2 (D := [.own (.slice A d.length cap) 9 1 d.length (strs d), rngC mb r (mmap encChg m) (mmap encChg m) none, .box B 114 [.pointer (some ⟨Tp, 0, none⟩), .slice A0 m.length cap0, .map (some mb)], .own (.slice A0 m.length cap0) 9 1 m.length (strs (m.map Prod.fst)), tabC Tp q T fp]) (by repeat (first | exact Pulls.nil | (apply Pulls.cons; focus (repeat (first | exact Pull.here | apply Pull.there)))))
    refine WC.loop (σ := List (List UInt8) × Bch × Option (List UInt8 × Value) × Option Addr × Nat) [0, 1, 44] (fun (e, left, cur, A, cap) => [(5, .slice A e.length cap)])
      (fun (e, left, cur, A, cap) w => (e ++ (left.filter (newB T.rows p)).map Prod.fst).Perm (d ++ (m.filter (newB T.rows p)).map Prod.fst) ∧ e.length + left.length ≤ d.length + m.length ∧ St w0 (fps [bchC B (some ⟨Tp, 0, none⟩) m fb, tabC Tp q T fp]) w [.own (.slice A e.length cap) 9 1 e.length (strs e), rngC mb r (mmap encChg m) (mmap encChg left) cur, .box B 114 [.pointer (some ⟨Tp, 0, none⟩), .slice A0 m.length cap0, .map (some mb)], .own (.slice A0 m.length cap0) 9 1 m.length (strs (m.map Prod.fst)), tabC Tp q T fp] (ZL w0 [bchC B (some ⟨Tp, 0, none⟩) m fb, tabC Tp q T fp]))
      (fun (e, left, cur, A, cap) => left.length) (d, m, none, A, cap) ⟨.refl _, Nat.le_refl _, hS⟩ ⟨rfl, trivial⟩ ?_
    clear hS
    rintro ⟨e, left, cur, A2, cap2⟩ g2 w ⟨hpm, hel, hS⟩
    show WC _ _ _ (lf _ [(5, .slice A2 e.length cap2)] _ _) _ _
    clear hcap
    have hcap := (hS.own_len (List.Mem.head _)).2.2
    rcases left with _ | ⟨x, left⟩
    · rw [List.filter_nil, List.map_nil, List.append_nil] at hpm
      have hsl := sort_perm hpm
      have hsn : e.length = (sortL (d ++ (m.filter (newB T.rows p)).map Prod.fst)).length := by rw [← hsl, sortL_len]
      simp only [List.length_nil, Nat.add_zero] at hel
      repeat' (first
        | (show WL _ _ _ _ _ _ _; first
          | refine WL.pure rfl rfl rfl rfl ?_
          | refine WL.nil ?_
          | (refine WL.mnext hS rfl rfl (fun l' p => by repeat (first | exact Repl.here | apply Repl.there)) rfl rfl rfl (fun _ => ?_) (fun l1 k v l2 h => absurd h (by simp [mmap])))
          | (refine WL.callL (D := [.own (.slice A2 e.length cap2) 9 1 e.length (strs e)]) hS (by repeat (first | exact Pulls.nil | (apply Pulls.cons; focus (repeat (first | exact Pull.here | apply Pull.there))))) rfl rfl (fun hI => sort_c hI.head hI.headB (by omega)) rfl rfl rfl ?_; rintro v w ⟨rfl, hm⟩ hS; replace hS := hS _ (.of1 hm); clear hm))
        | (show WC _ _ _ _ _ _; first
          | refine WC.seq ?_
          | refine WC.region ?_
          | refine WC.exit ?_
          | refine WC.ret ?_
          | refine WC.condF rfl (by with_reducible rfl) ?_)
        | refine seqQ_n ?_
        | refine seqQ_x ?_
        | refine blkQ_hit rfl ?_
        | refine rndQ_x ?_)
      have hS := hS.rngEnd (H' := [.own (.slice A2 e.length cap2) 9 1 e.length (strs (sortL e)), mapC mb (mmap encChg m), .box B 114 [.pointer (some ⟨Tp, 0, none⟩), .slice A0 m.length cap0, .map (some mb)], .own (.slice A0 m.length cap0) 9 1 m.length (strs (m.map Prod.fst)), tabC Tp q T fp]) (by repeat (first | exact Repl.here | apply Repl.there))
      have hS := St.objClose (φ := bchφ B (some ⟨Tp, 0, none⟩) m) (hS.pulls (D := [.box B 114 [.pointer (some ⟨Tp, 0, none⟩), .slice A0 m.length cap0, .map (some mb)], .own (.slice A0 m.length cap0) 9 1 m.length (strs (m.map Prod.fst)), mapC mb (mmap encChg m)]) (by repeat (first | exact Pulls.nil | (apply Pulls.cons; focus (repeat (first | exact Pull.here | apply Pull.there)))))) ⟨A0, cap0, mb, rfl⟩
      rw [← hfb, hsl, hsn] at hS
      exact fin1r rfl rfl ⟨A2, cap2, by rw [hsn], hS.mutLp (by repeat (first | exact Pulls.nil | (apply Pulls.cons; focus (repeat (first | exact Pull.here | apply Pull.there)))))⟩
    · repeat' (first
        | (show WL _ _ _ _ _ _ _; first
          | refine WL.pure rfl rfl rfl rfl ?_
          | refine WL.nil ?_
          | refine WL.load hS rfl rfl (LdOk.box (by repeat (first | exact List.Mem.head _ | apply List.Mem.tail)) rfl) rfl rfl rfl ?_
          | (refine WL.mnext hS rfl rfl (fun l' p => by repeat (first | exact Repl.here | apply Repl.there)) rfl rfl rfl (fun h => absurd h (by simp [mmap])) (fun l1 k v l2 hleft w hS => ?_); obtain ⟨lc1, ⟨okey, oval, ogone⟩, lc2, rfl, rfl, rfl, hlc⟩ := mmap_split hleft; rw [mmap_app] at hS; clear hleft; cases hg1 : (mget T.rows k).isSome <;> cases ogone <;> cases hg3 : begB p k)
          | (refine WL.mentry hS rfl rfl (by repeat (first | exact List.Mem.head _ | apply List.Mem.tail)) rfl rfl rfl ?_)
          | (refine WL.alloc (t := 24) hS rfl rfl rfl rfl rfl rfl ?_; intro w xb hS)
          | (refine WL.callL (D := [tabC Tp q T fp]) hS (by repeat (first | exact Pulls.nil | (apply Pulls.cons; focus (repeat (first | exact Pull.here | apply Pull.there))))) rfl rfl (fun hI => tget_c k hI) rfl rfl rfl ?_; rintro v w ⟨rfl, hmu⟩ hS; rw [show (getE T.rows k).2 = _ from hg1]; replace hS := hS _ hmu; clear hmu)
          | (refine WL.calls hS rfl rfl (hasPrefix_c k p _) rfl rfl rfl ?_; rintro v w rfl hS; rw [show decide (k.take p.length = p) = _ from hg3])
          | (refine WL.app hS rfl rfl rfl rfl (RdOk.box (by repeat (first | exact List.Mem.head _ | apply List.Mem.tail))) rfl rfl (fun A cap => by repeat (first | exact Repl.here | apply Repl.there)) (by simp at hel; omega) rfl rfl rfl ?_; intro A3 cap3 w hS)
          | (refine WL.store hS rfl rfl rfl (by repeat (first | exact StB.here rfl | apply StB.there)) rfl rfl rfl ?_; intro w hS)
          | refine WL.skip rfl rfl rfl ?_
          | (refine WL.slit hS rfl rfl rfl rfl rfl ?_; intro w b hS))
        | (show WC _ _ _ _ _ _; first
          | refine WC.seq ?_
          | refine WC.region ?_
          | refine WC.block ?_
          | refine WC.skip ?_
          | refine WC.condT rfl (by with_reducible rfl) ?_
          | refine WC.condF rfl (by with_reducible rfl) ?_)
        | refine seqQ_n ?_
        | refine blkQ_n ?_)
      all_goals
        rw [hlc] at hpm hel
        have hpm2 := ((List.Perm.append_left e (((perm_mid lc1 lc2 _).filter (newB T.rows p)).map Prod.fst)).symm).trans hpm
        first
          | (rw [List.filter_cons_of_pos (by simp [newB, hg1, hg3])] at hpm2
             exact rndQ_n (e ++ [k], lc1 ++ lc2, some (k, _), A3, cap3) ⟨by rw [List.append_assoc]; exact hpm2, by simp at hel ⊢; omega, by
               rw [List.length_append, ← strs_snoc]
               exact hS.droplast2 (by repeat (first | exact Pulls.nil | (apply Pulls.cons; focus (repeat (first | exact Pull.here | apply Pull.there)))))⟩ (by show (lc1 ++ lc2).length < (x :: left).length; rw [hlc]; simp) ⟨by rw [List.length_append]; rfl, trivial⟩ ⟨rfl, rfl, rfl, trivial⟩)
          | (rw [List.filter_cons_of_neg (by simp [newB, hg1, hg3])] at hpm2
             exact rndQ_n (e, lc1 ++ lc2, some (k, _), A2, cap2) ⟨hpm2, by simp at hel ⊢; omega, hS.droplast2 (by repeat (first | exact Pulls.nil | (apply Pulls.cons; focus (repeat (first | exact Pull.here | apply Pull.there)))))⟩ (by show (lc1 ++ lc2).length < (x :: left).length; rw [hlc]; simp) ⟨rfl, trivial⟩ ⟨rfl, rfl, rfl, trivial⟩)
end Go.Proofs.YtmofcalcdjoicaaGreatDoor

/- What is proved: what the disk's Arm and Restart do. Conditions: files of bounded length, of which what is kept is no longer than what is seen where it has only grown. -/
set_option linter.unusedSimpArgs false
set_option linter.unusedVariables false
namespace Go.J
open Go Go.RowKit
section
variable {P : Program} {N : Nat} {f : Fr} {w w0 : World} {Q : Post} {ops l : List Oper} {o : Oper} {M : List Nat} {H H' : List Chunk} {Z : List Snap} {ρ : Operand → Value}
theorem run_remU {ty ty' : TypeId} {x y : Operand} {a b : Int} (ho : o.op = .binOp .rem ty x y ty') (hx : ρ x = .int .u64 a) (hy : ρ y = .int .u64 b) (ha : 0 ≤ a) (hb : 0 < b ∧ b < 18446744073709551616) :
    (execOp ρ o).run P w = .ok (.value (.int .u64 (a % b))) w := by
  have h0 : ¬ b = 0 := by omega
  have h1 : (eqGuard .rem ty x y (.int .u64 a) (.int .u64 b)).run P w = .ok () w := by simp [eqGuard]
  have h2 : (binOp .rem ty (.int .u64 a) (.int .u64 b)).run P w = .ok (.int .u64 (a % b)) w := by
    have e1 := Int.emod_nonneg a h0
    have e2 := Int.emod_lt_of_pos a hb.1
    have e3 : IntKind.u64.wrap (a % b) = a % b := by rw [IntKind.wrap_u64]; omega
    simp [binOp, Op.intDiv, h0, Int.tmod_eq_emod_of_nonneg ha, e3]
  simp only [execOp, ho, hx, hy, Sem.run_bind, h1, h2, Result.andThen_ok]
  rfl
theorem WL.remU {ty ty' : TypeId} {x y : Operand} {a b : Int} (ho : o.op = .binOp .rem ty x y ty') (hx : ev f x = .int .u64 a) (hy : ev f y = .int .u64 b) (ha : 0 ≤ a) (hb : 0 < b ∧ b < 18446744073709551616)
    (hg : wants ops f o = true) {d : Nat} (hd : o.dst = some d) (hn : Nat.blt d N = true) (h : WL P N ops l (up f d (.int .u64 (a % b))) w Q) : WL P N ops (o :: l) f w Q := .val hg hd hn (run_remU ho hx hy ha hb) h
theorem wrapU {a : Int} (h : 0 ≤ a ∧ a < 18446744073709551616) : IntKind.u64.wrap a = a := by rw [IntKind.wrap_u64]; omega
theorem WL.subU {ty ty' : TypeId} {x y : Operand} {a b : Int} (ho : o.op = .binOp .sub ty x y ty') (hx : ev f x = .int .u64 a) (hy : ev f y = .int .u64 b) (hr : 0 ≤ a - b ∧ a - b < 18446744073709551616)
    (hg : wants ops f o = true) {d : Nat} (hd : o.dst = some d) (hn : Nat.blt d N = true) (h : WL P N ops l (up f d (.int .u64 (a - b))) w Q) : WL P N ops (o :: l) f w Q := by
  refine WL.subW ho hx hy hg hd hn ?_
  rw [wrapU hr]; exact h
def toU64 (P : Program) (s d : TypeId) : Bool := match P.underlying s, P.underlying d with
  | some (.int _), some (.int .u64) => true
  | _, _ => false
theorem WL.convU {s d' : TypeId} {x : Operand} {k : IntKind} {a : Int} (ho : o.op = .convert s d' x) (ht : toU64 P s d' = true) (hx : ev f x = .int k a) (hr : 0 ≤ a ∧ a < 18446744073709551616)
    (hg : wants ops f o = true) {d : Nat} (hd : o.dst = some d) (hn : Nat.blt d N = true) (h : WL P N ops l (up f d (.int .u64 a)) w Q) : WL P N ops (o :: l) f w Q := by
  refine .pure (v := .int .u64 a) ?_ hg hd hn h
  unfold toU64 at ht
  split at ht
  · rename_i k1 h1 h2
    unfold pureV
    rw [ho]
    simp only [pureOp, h1, h2, hx, wrapU hr]
    rfl
  · cases ht
end
section
variable {P : Program} {N : Nat} {f : Fr} {w w0 : World} {Q : Post} {ops : List Oper} {M : List Nat} {H0 H H' : List Chunk} {Z0 Z : List Snap} {q : Qs} {l : List Nat} {i : Nat} {S : World → Prop}
theorem WD.remU {ty ty' : TypeId} {x y : Operand} {a b : Int} (ho : (ix ops i).op = .binOp .rem ty x y ty') (hx : ev f x = .int .u64 a) (hy : ev f y = .int .u64 b) (ha : 0 ≤ a) (hb : 0 < b ∧ b < 18446744073709551616)
    (hq : q.contains i = true) (hg : wants ops f (ix ops i) = true) {d : Nat} (hd : (ix ops i).dst = some d) (hn : Nat.blt d N = true) (h : WD P N S ops q l (up f d (.int .u64 (a % b))) w Q) : WD P N S ops q (i :: l) f w Q :=
  .take hq hd hn (.inl ⟨hg, fun _ _ => run_remU ho hx hy ha hb⟩) h
theorem WD.convU {s d' : TypeId} {x : Operand} {k : IntKind} {a : Int} (ho : (ix ops i).op = .convert s d' x) (ht : toU64 P s d' = true) (hx : ev f x = .int k a) (hr : 0 ≤ a ∧ a < 18446744073709551616)
    (hq : q.contains i = true) (hg : wants ops f (ix ops i) = true) {d : Nat} (hd : (ix ops i).dst = some d) (hn : Nat.blt d N = true) (h : WD P N S ops q l (up f d (.int .u64 a)) w Q) : WD P N S ops q (i :: l) f w Q := by
  refine .pure (v := .int .u64 a) ?_ hq hg hd hn h
  unfold toU64 at ht
  split at ht
  · rename_i k1 h1 h2
    unfold pureV
    rw [ho]
    simp only [pureOp, h1, h2, hx, wrapU hr]
    rfl
  · cases ht
end
end Go.J
namespace Go.Proofs.YtmofcalcdjoicaaGreatDoor
open Go Go.J Go.RowKit

def Dk.arm (D : Dk) (n : Int) : Dk := { D with armed := max (-1) n }
set_option maxHeartbeats 4000000 in
set_option maxRecDepth 100000 in
theorem arm_c {q mb lb : Nat} {D : Dk} (n : Int) {w0 : World} (hc : (dkC q mb lb D).holds w0) (hi : inB (dkC q mb lb D) w0) :
    Cal Tryz.prog 31 [.pointer (some ⟨q, 0, none⟩), .int .i64 n] w0 (fun v w' => v = .tuple #[] ∧ Mut w0 w' (dkC q mb lb D) (dkC q mb lb (D.arm n))) := by
  refine Cal.mkM hc hi (by kernel_rfl) Tryz.func31 rfl rfl fun hS => ?_
  obtain ⟨h1, h2, h3, hS⟩ := St.dkOpen hS
  replace hS : St w0 (dkC q mb lb D).fp w0 [.box q 101 [.map (some mb), .map (some lb), .int .i64 D.steps, .int .i64 D.stamps, .int .i64 D.armed, .bool D.down], mapC mb (mmap encIt D.items), mapC lb (mmap encI D.limits)] _ := hS
  repeat' (first
    | (show WL _ _ _ _ _ _ _; first
      | refine WL.pure rfl rfl rfl rfl ?_
      | refine WL.nil ?_
      | refine WL.maxI rfl rfl rfl rfl rfl rfl ?_
      | (refine WL.store hS rfl rfl rfl (by repeat (first | exact StB.here rfl | apply StB.there)) rfl rfl rfl ?_; intro w hS))
    | (show WC _ _ _ _ _ _; first
      | refine WC.seq ?_
      | refine WC.region ?_
      | refine WC.condT rfl (by decide) ?_)
    | refine seqQ_n ?_)
  exact fin0n rfl ⟨rfl, (St.dkClose (D.arm n) h1 h2 h3 hS).mutOf (List.Mem.head _)⟩
def mixS (x s : Int) : Int := bits .xor .u64 x (shrI .u64 x s)
/-- a number that looks like chance -/
def mixE (loss n : Int) : Int := mixS (IntKind.u64.wrap (mixS (IntKind.u64.wrap (mixS (IntKind.u64.wrap (loss + IntKind.u64.wrap (n * 11400714819323198485))) 30 * 13787848793156543929)) 27 * 10723151780598845931)) 31
theorem mixE_in (loss n : Int) : 0 ≤ mixE loss n ∧ mixE loss n < 18446744073709551616 := by
  have h : ∀ y, 0 ≤ IntKind.u64.wrap y ∧ IntKind.u64.wrap y < 18446744073709551616 := fun y => by rw [IntKind.wrap_u64]; omega
  exact h _
set_option maxHeartbeats 4000000 in
set_option maxRecDepth 100000 in
theorem mix_c (loss n : Int) (w0 : World) : Cal Tryz.prog 75 [.int .u64 loss, .int .u64 n] w0 (fun v w' => Upd [] w0 w' ∧ v = .int .u64 (mixE loss n)) := by
  refine Cal.mk' (by kernel_rfl) Tryz.func75 rfl rfl fun hS => ?_
  repeat' (first
    | (show WL _ _ _ _ _ _ _; first
      | refine WL.pure rfl rfl rfl rfl ?_
      | refine WL.nil ?_
      | (refine WL.shr rfl rfl rfl (by decide) rfl rfl rfl ?_))
    | (show WC _ _ _ _ _ _; first
      | refine WC.seq ?_
      | refine WC.region ?_
      | refine WC.ret ?_)
    | refine seqQ_n ?_)
  exact fin1r rfl rfl ⟨hS.upd, rfl⟩
/-- what is kept of a file that wasn't synced -/
def loseK (loss n : Int) (x : It) : List UInt8 :=
  if x.anew then (if 0 < mixE (IntKind.u64.wrap loss) n % ((x.data.length : Int) + 2) then x.data.take (mixE (IntKind.u64.wrap loss) n % ((x.data.length : Int) + 2) - 1).toNat else x.kept)
  else x.data.take ((x.kept.length : Int) + mixE (IntKind.u64.wrap loss) n % ((x.data.length : Int) - x.kept.length + 1)).toNat
def lose1 (loss : Int) (s : Int × Dk) (p : List UInt8) : Int × Dk :=
  if (s.2.at p).loose then (s.1 + 1, s.2.set p { s.2.at p with data := loseK loss (s.1 + 1) (s.2.at p), kept := loseK loss (s.1 + 1) (s.2.at p), loose := false, anew := false }) else s
def Dk.keys (D : Dk) : List (List UInt8) := (D.items.map Prod.fst).mergeSort (fun x y => decide (x ≤ y))
def Dk.lose (D : Dk) (loss : Int) : Int × Dk := D.keys.foldl (lose1 loss) (0, D)
def Dk.restart (D : Dk) (loss : Int) : Dk := { (D.lose loss).2 with down := false, armed := -1 }
/-- no file is great, and where one has only grown, what is kept is no more than what is seen -/
def Dk.Kp (D : Dk) (B : Nat) : Prop := ∀ x ∈ D.items, x.2.data.length ≤ B ∧ x.2.kept.length ≤ B ∧ (x.2.loose = true → x.2.anew = false → x.2.kept.length ≤ x.2.data.length)
theorem Dk.Kp.at_ {D : Dk} {B : Nat} (h : D.Kp B) (p : List UInt8) : (D.at p).data.length ≤ B ∧ (D.at p).kept.length ≤ B ∧ ((D.at p).loose = true → (D.at p).anew = false → (D.at p).kept.length ≤ (D.at p).data.length) := by
  unfold Dk.at
  cases e : mget D.items p with
  | none => exact ⟨Nat.zero_le _, Nat.zero_le _, fun h => by cases h⟩
  | some x => exact h _ (mget_mem e)
theorem loseK_len (loss n : Int) (x : It) {B : Nat} (h1 : x.data.length ≤ B) (h2 : x.kept.length ≤ B) : (loseK loss n x).length ≤ B := by
  unfold loseK
  repeat' split
  all_goals first | exact h2 | (rw [List.length_take]; omega)
theorem lose1_Kp {loss : Int} {s : Int × Dk} {p : List UInt8} {B : Nat} (h : s.2.Kp B) : (lose1 loss s p).2.Kp B := by
  unfold lose1
  split
  · intro y hy
    rcases mem_mset hy with h1 | h1
    · exact h y h1
    · rw [h1]
      have := loseK_len loss (s.1 + 1) (s.2.at p) (h.at_ p).1 (h.at_ p).2.1
      exact ⟨this, this, fun hh => by cases hh⟩
  · exact h
theorem u64_nat {a : Int} {n : Nat} (h : a = (n : Int)) : Value.int .u64 a = .int .u64 (Int.ofNat n) := by rw [h]; rfl
set_option maxHeartbeats 16000000 in
set_option maxRecDepth 100000 in
theorem restart_c {q mb lb : Nat} {D : Dk} (loss : Int) {w0 : World} (hc : (dkC q mb lb D).holds w0) (hi : inB (dkC q mb lb D) w0) (hk : D.Kp 1099511627776) (hn : D.items.length ≤ 1048576) (hkk : ∀ x ∈ D.items, x.1.length ≤ 1099511627) :
    Cal Tryz.prog 33 [.pointer (some ⟨q, 0, none⟩), .int .i64 loss] w0 (fun v w' => v = .int .i64 0 ∧ Mut w0 w' (dkC q mb lb D) (dkC q mb lb (D.restart loss))) := by
  refine Cal.mkM hc hi (by kernel_rfl) Tryz.func33 rfl rfl fun hS => ?_
  have hkl : D.keys.length = D.items.length := by unfold Dk.keys; rw [(List.mergeSort_perm _ _).length_eq, List.length_map]
  have hml : (mmap encIt D.items).length = D.items.length := by unfold mmap; rw [List.length_map]
  have hmk : (mmap encIt D.items).map Prod.fst = D.items.map Prod.fst := by unfold mmap; rw [List.map_map]; rfl
  have hks : ((mmap encIt D.items).map Prod.fst).mergeSort (fun x y => decide (x ≤ y)) = D.keys := by rw [hmk]; rfl
  have hmkk : ∀ p ∈ mmap encIt D.items, p.1.length ≤ 1099511627776 := fun p hp => by
    obtain ⟨x, hx, rfl⟩ := List.mem_map.1 hp
    have := hkk x hx
    show x.1.length ≤ _
    omega
  repeat' (first
    | (show WL _ _ _ _ _ _ _; first
      | refine WL.pure rfl rfl rfl rfl ?_
      | refine WL.nil ?_
      | (refine WL.load hS rfl rfl (LdOk.dk (D := D) (by repeat (first | exact List.Mem.head _ | apply List.Mem.tail)) rfl) rfl rfl rfl ?_)
      | (refine WL.callG rfl rfl (mapsKeys_n mb _) rfl rfl rfl ?_; rintro v w ⟨x, rfl, hu, hnw⟩; replace hS := hS.new hu hnw; clear hu hnw)
      | (refine WL.callG rfl rfl (sorted_c (m := mmap encIt D.items) (hS.holds (.box x keysT [.map (some mb)]) (by repeat (first | exact List.Mem.head _ | apply List.Mem.tail))) (hS.holds (dkC q mb lb D) (by repeat (first | exact List.Mem.head _ | apply List.Mem.tail))).1.2.2.2.2.1 (by rw [hml]; exact hn) hmkk) rfl rfl rfl ?_; rintro v w ⟨hu, A, cap, rfl, hnw⟩; rw [hks, hml] at hnw; rw [hml]; replace hS := hS.new hu hnw; clear hu hnw))
    | (show WC _ _ _ _ _ _; first
      | refine WC.seq ?_
      | refine WC.region ?_
      | refine WC.block ?_
      | refine WC.skip ?_
      | refine WC.condF rfl (by with_reducible rfl) ?_)
    | refine seqQ_n ?_)
  refine WC.loop (σ := Nat × Int × Dk) [0, 1, 18, 19] (fun (k, n, E) => [(5, .int .i64 n), (20, .int .i64 (k : Int))])
    (fun (k, n, E) w => k ≤ D.items.length ∧ 0 ≤ n ∧ n ≤ k ∧ E.Kp 1099511627776 ∧ (D.keys.drop k).foldl (lose1 loss) (n, E) = D.lose loss ∧ St w0 _ w [.own (.slice A D.items.length cap) 9 1 D.items.length (strs D.keys), .box x keysT [.map (some mb)], dkC q mb lb E] _)
    (fun (k, _) => D.items.length - k) (0, 0, D) ⟨Nat.zero_le _, Int.le_refl _, Int.le_refl _, hk, rfl, hS⟩ ⟨rfl, rfl, trivial⟩ ?_
  clear hS
  rintro ⟨k, n, E⟩ g w ⟨hk', h0, hnk, hKp, hfold, hS⟩
  show WC _ _ _ (lf _ [(5, .int .i64 n), (20, .int .i64 (k : Int))] _ _) _ _
  by_cases hlt : k < D.items.length
  · have hlt2 : k < D.keys.length := by omega
    obtain ⟨ga, oa, rfl⟩ := hS.own_addr (List.Mem.head _) (by omega)
    have hx : (strs D.keys)[k * 1]? = some (str D.keys[k]) := by rw [Nat.mul_one]; exact strs_at hlt2
    have hstep : D.keys.drop k = D.keys[k] :: D.keys.drop (k + 1) := List.drop_eq_getElem_cons hlt2
    rw [hstep, List.foldl_cons] at hfold
    clear hstep
    generalize D.keys[k] = p at *
    have hat := hKp.at_ p
    have hKp' := lose1_Kp (loss := loss) (s := (n, E)) (p := p) hKp
    have hlk := look_it E.items p
    have hE : E.at p = (mget E.items p).getD It0 := rfl
    rw [← hE] at hlk
    clear hE
    have hl1 : lose1 loss (n, E) p = if (E.at p).loose then (n + 1, E.set p { E.at p with data := loseK loss (n + 1) (E.at p), kept := loseK loss (n + 1) (E.at p), loose := false, anew := false }) else (n, E) := rfl
    rw [hl1] at hfold hKp'
    clear hl1
    generalize E.at p = it at *
    obtain ⟨dir, dat, kept, loose, anew, stamp⟩ := it
    dsimp only at *
    have hlk : lookV (encIt It0) (mmap encIt E.items) p false = .agg ⟨[.bool dir, str dat, str kept, .bool loose, .bool anew, .int .i64 stamp]⟩ := hlk
    have hpk := mixE_in (IntKind.u64.wrap loss) (n + 1)
    cases loose with
    | false =>
      rw [if_neg (by decide)] at hfold hKp'
      repeat' (first
        | (show WL _ _ _ _ _ _ _; first
          | refine WL.pure rfl rfl rfl rfl ?_
          | refine WL.nil ?_
          | refine WL.load hS rfl rfl (LdOk.box (by repeat (first | exact List.Mem.head _ | apply List.Mem.tail)) rfl) rfl rfl rfl ?_
          | refine WL.add rfl rfl rfl (by omega) rfl rfl rfl ?_
          | (refine WL.load hS rfl rfl (LdOk.ownAt (by repeat (first | exact List.Mem.head _ | apply List.Mem.tail)) rfl ⟨_, rfl⟩ hx rfl) rfl rfl rfl ?_)
          | (refine WL.load hS rfl rfl (LdOk.dk (D := E) (by repeat (first | exact List.Mem.head _ | apply List.Mem.tail)) rfl) rfl rfl rfl ?_)
          | (refine WL.mget hS rfl rfl rfl rfl (MapOk.dk (D := E) (by repeat (first | exact List.Mem.head _ | apply List.Mem.tail))) hlk rfl rfl rfl ?_)
          | (refine WL.store hS rfl rfl rfl (by repeat (first | exact StB.here rfl | apply StB.there)) rfl rfl rfl ?_; intro w hS)
          | (refine WL.alloc hS rfl rfl rfl rfl rfl rfl ?_; intro w b hS)
          | refine WL.index rfl rfl rfl rfl (by first | with_reducible assumption | omega) rfl rfl rfl rfl ?_)
        | (show WC _ _ _ _ _ _; first
          | refine WC.seq ?_
          | refine WC.region ?_
          | refine WC.block ?_
          | refine WC.skip ?_
          | refine WC.exit ?_
          | refine WC.condT rfl (by decide) ?_
          | refine WC.condT rfl (decide_eq_true (by first | with_reducible assumption | omega)) ?_)
        | refine seqQ_n ?_
        | refine seqQ_x ?_
        | refine blkQ_hit rfl ?_)
      exact rndQ_n (k + 1, n, E) ⟨by omega, h0, by show n ≤ ((k + 1 : Nat) : Int); omega, hKp, hfold, hS.drop⟩ (by show D.items.length - (k + 1) < D.items.length - k; omega) ⟨rfl, vint (by omega), trivial⟩ ⟨rfl, rfl, rfl, rfl, trivial⟩
    | true =>
      rw [if_pos rfl] at hfold hKp'
      cases anew with
      | true =>
        have he0 := Int.emod_nonneg (mixE (IntKind.u64.wrap loss) (n + 1)) (show ((dat.length : Int) + 2) ≠ 0 by omega)
        have he1 := Int.emod_lt_of_pos (mixE (IntKind.u64.wrap loss) (n + 1)) (show (0 : Int) < (dat.length : Int) + 2 by omega)
        obtain ⟨mm, hmm⟩ : ∃ mm : Nat, mixE (IntKind.u64.wrap loss) (n + 1) % ((dat.length : Int) + 2) = (mm : Int) := ⟨_, (Int.toNat_of_nonneg he0).symm⟩
        rw [hmm] at he0 he1
        have hK : loseK loss (n + 1) ⟨dir, dat, kept, true, true, stamp⟩ = if 0 < mm then dat.take (mm - 1) else kept := by
          unfold loseK
          rw [if_pos rfl]
          dsimp only
          rw [hmm]
          by_cases hz : 0 < mm
          · rw [if_pos (by omega), if_pos hz]; congr 1; omega
          · rw [if_neg (by omega), if_neg hz]
        rw [hK] at hfold hKp'
        clear hK
        by_cases hz : 0 < mm
        · have hm1 : (mm : Int) - 1 = ((mm - 1 : Nat) : Int) := by omega
          rw [if_pos hz] at hfold hKp'
          repeat' (first
            | (show WL _ _ _ _ _ _ _; first
              | (refine WL.convU rfl rfl rfl (by omega) rfl rfl rfl ?_)
              | (refine WL.subU rfl rfl rfl (by omega) rfl rfl rfl ?_; rw [hm1])
              | refine WL.pure rfl rfl rfl rfl ?_
              | refine WL.nil ?_
              | refine WL.load hS rfl rfl (LdOk.box (by repeat (first | exact List.Mem.head _ | apply List.Mem.tail)) rfl) rfl rfl rfl ?_
              | refine WL.add rfl rfl rfl (by omega) rfl rfl rfl ?_
              | (refine WL.load hS rfl rfl (LdOk.ownAt (by repeat (first | exact List.Mem.head _ | apply List.Mem.tail)) rfl ⟨_, rfl⟩ hx rfl) rfl rfl rfl ?_)
              | (refine WL.load hS rfl rfl (LdOk.dk (D := E) (by repeat (first | exact List.Mem.head _ | apply List.Mem.tail)) rfl) rfl rfl rfl ?_)
              | (refine WL.mget hS rfl rfl rfl rfl (MapOk.dk (D := E) (by repeat (first | exact List.Mem.head _ | apply List.Mem.tail))) hlk rfl rfl rfl ?_)
              | (refine WL.calls hS rfl rfl (mix_c (IntKind.u64.wrap loss) (n + 1) _) rfl rfl rfl ?_; rintro v w rfl hS)
              | (refine WL.remU rfl rfl rfl (by omega) (by omega) rfl rfl rfl ?_; rw [hmm])
              | (refine WL.callL (D := [dkC q mb lb E]) hS (by repeat (first | exact Pulls.nil | (apply Pulls.cons; focus (repeat (first | exact Pull.here | apply Pull.there))))) rfl rfl (fun hI => dset_c p ⟨dir, dat.take (mm - 1), dat.take (mm - 1), false, false, stamp⟩ hI.head hI.headB) rfl rfl rfl ?_; rintro v w ⟨rfl, hm⟩ hS; replace hS := hS _ (.of1 hm); clear hm)
              | refine WL.highS rfl rfl rfl rfl (by omega) rfl rfl rfl ?_
              | (refine WL.store hS rfl rfl rfl (by repeat (first | exact StB.here rfl | apply StB.there)) rfl rfl rfl ?_; intro w hS)
              | (refine WL.alloc hS rfl rfl rfl rfl rfl rfl ?_; intro w b hS)
              | refine WL.index rfl rfl rfl rfl (by first | with_reducible assumption | omega) rfl rfl rfl rfl ?_)
            | (show WC _ _ _ _ _ _; first
              | refine WC.seq ?_
              | refine WC.region ?_
              | refine WC.block ?_
              | refine WC.skip ?_
              | refine WC.condT rfl (by with_reducible rfl) ?_
              | refine WC.condF rfl (by decide) ?_
              | refine WC.condT rfl (decide_eq_true (by first | with_reducible assumption | omega)) ?_)
            | refine seqQ_n ?_
            | refine blkQ_n ?_)
          exact rndQ_n (k + 1, n + 1, E.set p ⟨dir, dat.take (mm - 1), dat.take (mm - 1), false, false, stamp⟩) ⟨by omega, by show 0 ≤ n + 1; omega, by show n + 1 ≤ ((k + 1 : Nat) : Int); omega, hKp', hfold, hS.droplast2 (by repeat (first | exact Pulls.nil | (apply Pulls.cons; focus (repeat (first | exact Pull.here | apply Pull.there)))))⟩ (by show D.items.length - (k + 1) < D.items.length - k; omega) ⟨rfl, vint (by omega), trivial⟩ ⟨rfl, rfl, rfl, rfl, trivial⟩
        · rw [if_neg hz] at hfold hKp'
          repeat' (first
            | (show WL _ _ _ _ _ _ _; first
              | (refine WL.convU rfl rfl rfl (by omega) rfl rfl rfl ?_)
              | refine WL.pure rfl rfl rfl rfl ?_
              | refine WL.nil ?_
              | refine WL.load hS rfl rfl (LdOk.box (by repeat (first | exact List.Mem.head _ | apply List.Mem.tail)) rfl) rfl rfl rfl ?_
              | refine WL.add rfl rfl rfl (by omega) rfl rfl rfl ?_
              | (refine WL.load hS rfl rfl (LdOk.ownAt (by repeat (first | exact List.Mem.head _ | apply List.Mem.tail)) rfl ⟨_, rfl⟩ hx rfl) rfl rfl rfl ?_)
              | (refine WL.load hS rfl rfl (LdOk.dk (D := E) (by repeat (first | exact List.Mem.head _ | apply List.Mem.tail)) rfl) rfl rfl rfl ?_)
              | (refine WL.mget hS rfl rfl rfl rfl (MapOk.dk (D := E) (by repeat (first | exact List.Mem.head _ | apply List.Mem.tail))) hlk rfl rfl rfl ?_)
              | (refine WL.calls hS rfl rfl (mix_c (IntKind.u64.wrap loss) (n + 1) _) rfl rfl rfl ?_; rintro v w rfl hS)
              | (refine WL.remU rfl rfl rfl (by omega) (by omega) rfl rfl rfl ?_; rw [hmm])
              | (refine WL.callL (D := [dkC q mb lb E]) hS (by repeat (first | exact Pulls.nil | (apply Pulls.cons; focus (repeat (first | exact Pull.here | apply Pull.there))))) rfl rfl (fun hI => dset_c p ⟨dir, kept, kept, false, false, stamp⟩ hI.head hI.headB) rfl rfl rfl ?_; rintro v w ⟨rfl, hm⟩ hS; replace hS := hS _ (.of1 hm); clear hm)
              | (refine WL.store hS rfl rfl rfl (by repeat (first | exact StB.here rfl | apply StB.there)) rfl rfl rfl ?_; intro w hS)
              | (refine WL.alloc hS rfl rfl rfl rfl rfl rfl ?_; intro w b hS)
              | refine WL.index rfl rfl rfl rfl (by first | with_reducible assumption | omega) rfl rfl rfl rfl ?_)
            | (show WC _ _ _ _ _ _; first
              | refine WC.seq ?_
              | refine WC.region ?_
              | refine WC.block ?_
              | refine WC.skip ?_
              | refine WC.condT rfl (by with_reducible rfl) ?_
              | refine WC.condF rfl (by decide) ?_
              | refine WC.condT rfl (decide_eq_true (by first | with_reducible assumption | omega)) ?_
              | refine WC.condF rfl (decide_eq_false (by first | with_reducible assumption | omega)) ?_)
            | refine seqQ_n ?_
            | refine blkQ_n ?_)
          exact rndQ_n (k + 1, n + 1, E.set p ⟨dir, kept, kept, false, false, stamp⟩) ⟨by omega, by show 0 ≤ n + 1; omega, by show n + 1 ≤ ((k + 1 : Nat) : Int); omega, hKp', hfold, hS.droplast2 (by repeat (first | exact Pulls.nil | (apply Pulls.cons; focus (repeat (first | exact Pull.here | apply Pull.there)))))⟩ (by show D.items.length - (k + 1) < D.items.length - k; omega) ⟨rfl, vint (by omega), trivial⟩ ⟨rfl, rfl, rfl, rfl, trivial⟩
      | false =>
        have hkd := hat.2.2 rfl rfl
        have he0 := Int.emod_nonneg (mixE (IntKind.u64.wrap loss) (n + 1)) (show ((dat.length : Int) - kept.length + 1) ≠ 0 by omega)
        have he1 := Int.emod_lt_of_pos (mixE (IntKind.u64.wrap loss) (n + 1)) (show (0 : Int) < (dat.length : Int) - kept.length + 1 by omega)
        obtain ⟨mm, hmm⟩ : ∃ mm : Nat, mixE (IntKind.u64.wrap loss) (n + 1) % ((dat.length : Int) - kept.length + 1) = (mm : Int) := ⟨_, (Int.toNat_of_nonneg he0).symm⟩
        rw [hmm] at he0 he1
        have hK : loseK loss (n + 1) ⟨dir, dat, kept, true, false, stamp⟩ = dat.take (kept.length + mm) := by
          unfold loseK
          rw [if_neg (show ¬ false = true by decide)]
          dsimp only
          rw [hmm]
          congr 1
        rw [hK] at hfold hKp'
        clear hK
        repeat' (first
          | (show WL _ _ _ _ _ _ _; first
            | (refine WL.convU rfl rfl rfl (by omega) rfl rfl rfl ?_)
            | refine WL.pure rfl rfl rfl rfl ?_
            | refine WL.nil ?_
            | refine WL.load hS rfl rfl (LdOk.box (by repeat (first | exact List.Mem.head _ | apply List.Mem.tail)) rfl) rfl rfl rfl ?_
            | refine WL.add rfl rfl rfl (by omega) rfl rfl rfl ?_
            | (refine WL.load hS rfl rfl (LdOk.ownAt (by repeat (first | exact List.Mem.head _ | apply List.Mem.tail)) rfl ⟨_, rfl⟩ hx rfl) rfl rfl rfl ?_)
            | (refine WL.load hS rfl rfl (LdOk.dk (D := E) (by repeat (first | exact List.Mem.head _ | apply List.Mem.tail)) rfl) rfl rfl rfl ?_)
            | (refine WL.mget hS rfl rfl rfl rfl (MapOk.dk (D := E) (by repeat (first | exact List.Mem.head _ | apply List.Mem.tail))) hlk rfl rfl rfl ?_)
            | (refine WL.calls hS rfl rfl (mix_c (IntKind.u64.wrap loss) (n + 1) _) rfl rfl rfl ?_; rintro v w rfl hS)
            | (refine WL.callL (D := [dkC q mb lb E]) hS (by repeat (first | exact Pulls.nil | (apply Pulls.cons; focus (repeat (first | exact Pull.here | apply Pull.there))))) rfl rfl (fun hI => dset_c p ⟨dir, dat.take (kept.length + mm), dat.take (kept.length + mm), false, false, stamp⟩ hI.head hI.headB) rfl rfl rfl ?_; rintro v w ⟨rfl, hm⟩ hS; replace hS := hS _ (.of1 hm); clear hm)
            | (refine WL.store hS rfl rfl rfl (by repeat (first | exact StB.here rfl | apply StB.there)) rfl rfl rfl ?_; intro w hS)
            | (refine WL.alloc hS rfl rfl rfl rfl rfl rfl ?_; intro w b hS)
            | refine WL.index rfl rfl rfl rfl (by first | with_reducible assumption | omega) rfl rfl rfl rfl ?_)
          | (show WC _ _ _ _ _ _; first
            | refine WC.seq ?_
            | refine WC.region ?_
            | refine WC.block ?_
            | refine WC.skip ?_
            | (show WC _ _ (Code.region _ (List.toArray [_, _, _, _, _, _, _, _, _, _, _, _, _, _, _, _, _, _, _, _, _]) true) _ _ _; refine WC.drawV hS [0,1,2,3,4,5,6,7,8,9,10,11,12,13,14,15,16,17,18,19] [0,1,2,3,4,5,6,7,8,9,10,11,12,13,14,15,16,17,18,19] 20 [] (by kernel_rfl) (by kernel_rfl) ?_; clear hS; intro w hS hM)
            | refine WC.condF rfl (by with_reducible rfl) ?_
            | refine WC.condF rfl (by decide) ?_
            | refine WC.condT rfl (decide_eq_true (by first | with_reducible assumption | omega)) ?_)
          | (show WD _ _ _ _ _ _ _ _ _; first
            | (refine WD.convU rfl rfl rfl (by omega) rfl rfl rfl rfl ?_)
            | refine WD.pure rfl rfl rfl rfl rfl ?_
            | refine WD.nil ?_
            | refine WD.load rfl rfl (LdOk.box (by repeat (first | exact List.Mem.head _ | apply List.Mem.tail)) rfl) rfl rfl rfl rfl ?_
            | refine WD.add rfl rfl rfl (by omega) rfl rfl rfl rfl ?_
            | refine WD.sub rfl rfl rfl (by omega) rfl rfl rfl rfl ?_
            | (refine WD.remU rfl rfl rfl (by omega) (by omega) rfl rfl rfl rfl ?_; rw [hmm])
            | (refine WD.highS rfl rfl rfl rfl (by omega) rfl rfl rfl rfl ?_)
            | (refine WD.pivStore hS rfl rfl rfl (by repeat (first | exact StB.here rfl | apply StB.there)) rfl rfl rfl rfl ?_; clear hS; intro w hS hM)
            | refine WD.conv64 rfl rfl rfl (by omega) rfl rfl rfl rfl ?_)
          | refine seqQ_n ?_
          | refine blkQ_n ?_)
        exact rndQ_n (k + 1, n + 1, E.set p ⟨dir, dat.take (kept.length + mm), dat.take (kept.length + mm), false, false, stamp⟩) ⟨by omega, by show 0 ≤ n + 1; omega, by show n + 1 ≤ ((k + 1 : Nat) : Int); omega, hKp', hfold, hS.droplast2 (by repeat (first | exact Pulls.nil | (apply Pulls.cons; focus (repeat (first | exact Pull.here | apply Pull.there)))))⟩ (by show D.items.length - (k + 1) < D.items.length - k; omega) ⟨rfl, vint (by omega), trivial⟩ ⟨rfl, rfl, rfl, rfl, trivial⟩
  · have hke : k = D.items.length := by omega
    subst hke
    rw [← hkl, List.drop_length, List.foldl_nil] at hfold
    have hS := hS.droplast2 (D := [dkC q mb lb E]) (by repeat (first | exact Pulls.nil | (apply Pulls.cons; focus (repeat (first | exact Pull.here | apply Pull.there)))))
    have hR : D.restart loss = { E with down := false, armed := -1 } := by unfold Dk.restart; rw [← hfold]
    rw [hR]
    obtain ⟨h1, h2, h3, hS⟩ := St.dkOpen hS
    replace hS : St w0 _ w [.box q 101 [.map (some mb), .map (some lb), .int .i64 E.steps, .int .i64 E.stamps, .int .i64 E.armed, .bool E.down], mapC mb (mmap encIt E.items), mapC lb (mmap encI E.limits)] _ := hS
    repeat' (first
      | (show WL _ _ _ _ _ _ _; first
        | refine WL.pure rfl rfl rfl rfl ?_
        | refine WL.nil ?_
        | (refine WL.store hS rfl rfl rfl (by repeat (first | exact StB.here rfl | apply StB.there)) rfl rfl rfl ?_; intro w hS))
      | (show WC _ _ _ _ _ _; first
        | refine WC.seq ?_
        | refine WC.region ?_
        | refine WC.exit ?_
        | refine WC.ret ?_
        | refine WC.condF rfl (decide_eq_false (by first | with_reducible assumption | omega)) ?_)
      | refine seqQ_n ?_
      | refine seqQ_x ?_
      | refine blkQ_hit rfl ?_
      | refine rndQ_x ?_)
    exact fin1r rfl rfl ⟨rfl, (St.dkClose { E with down := false, armed := -1 } h1 h2 h3 hS).mutOf (List.Mem.head _)⟩
end Go.Proofs.YtmofcalcdjoicaaGreatDoor

/- What is proved: a disk with a table's files, wherever the machine stops: what its calls leave, what is kept behind the next beginning. Conditions: as each names them. -/
set_option linter.unusedSimpArgs false
set_option linter.unusedVariables false
namespace Go.Proofs.YtmofcalcdjoicaaGreatDoor
open Go Go.J Go.RowKit

/-- a bound of every file's length -/
abbrev CB : Nat := 1000000000
/-- the content of a disk with a table's folder and files, whatever is armed -/
structure SysC (D : Dk) : Prop where
  lim : D.limits = []
  nd : (D.items.map Prod.fst).Nodup
  dir : (D.at sysP).dir = true
  has : D.has sysP = true
  files : ∀ p, sysF p → (D.at p).dir = false
  keys : ∀ x ∈ D.items, x.1 = sysP ∨ sysF x.1
  kp : D.Kp CB
  firm : (D.at sysP).loose = false
structure SysU (D : Dk) : Prop where
  c : SysC D
  up : D.down = false
def KpI (x : It) : Prop := x.data.length ≤ CB ∧ x.kept.length ≤ CB ∧ (x.loose = true → x.anew = false → x.kept.length ≤ x.data.length)
/-- stopped: nothing of the content is another -/
def Halt (D D' : Dk) : Prop := SysC D' ∧ ∀ y, D'.get y = D.get y
section
variable {D : Dk} {bs : Option (List Chg)} {ls : List (List Chg)}
theorem SysC.step (h : SysC D) : SysC D.step := by
  have e := Dk.step_items D
  refine ⟨by rw [Dk.step_limits]; exact h.lim, by rw [e]; exact h.nd, ?_, ?_, fun p hp => ?_, by rw [e]; exact h.keys, fun x hx => h.kp x (by rwa [e] at hx), by rw [Dk.at_get, Dk.get_step]; exact h.firm⟩
  · rw [Dk.at_get, Dk.get_step]; exact h.dir
  · rw [Dk.has_get, Dk.get_step]; exact h.has
  · rw [Dk.at_get, Dk.get_step]; exact h.files p hp
theorem SysC.halt (h : SysC D) : Halt D D.step := ⟨h.step, fun y => Dk.get_step D y⟩
theorem SysU.step (h : SysU D) (ha : ¬ D.armed = 0) : SysU D.step := ⟨h.c.step, by unfold Dk.step; rw [if_neg ha]; exact h.up⟩
theorem step_stamps (D : Dk) : D.step.stamps = D.stamps := by unfold Dk.step; split <;> rfl
theorem SysC.put (h : SysC D) {p : List UInt8} {x : It} (hp : sysF p) (hx : x.dir = false) (hk : KpI x) : SysC { D with items := mset D.items p x } := by
  obtain ⟨_, _, _, hne⟩ := sysF_ok hp
  refine ⟨h.lim, mset_nodup h.nd _ _, ?_, ?_, fun y hy => ?_, fun y hy => ?_, fun y hy => ?_, by rw [Dk.at_get, Dk.get_put, if_neg (Ne.symm hne)]; exact h.firm⟩
  · rw [Dk.at_get, Dk.get_put, if_neg (Ne.symm hne)]; exact h.dir
  · rw [Dk.has_get, Dk.get_put, if_neg (Ne.symm hne)]; exact h.has
  · rw [Dk.at_get, Dk.get_put]
    by_cases e : y = p
    · rw [if_pos e]; exact hx
    · rw [if_neg e]; exact h.files y hy
  · rcases mset_mem hy with h1 | h1
    · exact h.keys y h1
    · rw [h1]; exact .inr hp
  · rcases mset_mem hy with h1 | h1
    · exact h.kp y h1
    · rw [h1]; exact hk
theorem SysC.set (h : SysC D) {p : List UInt8} {x : It} (hp : sysF p) (hx : x.dir = false) (hk : KpI x) : SysC (D.set p x) := by
  have h1 := h.put (x := { x with stamp := IntKind.i64.wrap (D.stamps + 1) }) hp hx hk
  exact ⟨h1.lim, h1.nd, h1.dir, h1.has, h1.files, h1.keys, h1.kp, h1.firm⟩
theorem SysC.del (h : SysC D) {p : List UInt8} (hp : sysF p) : SysC (D.del p) := by
  obtain ⟨_, _, _, hne⟩ := sysF_ok hp
  refine ⟨h.lim, mdel_nodup h.nd _, ?_, ?_, fun y hy => ?_, fun y hy => h.keys y ((mdel_sub _ _).mem hy), fun y hy => h.kp y ((mdel_sub _ _).mem hy), by rw [Dk.at_get, Dk.get_del _ h.nd, if_neg (Ne.symm hne)]; exact h.firm⟩
  · rw [Dk.at_get, Dk.get_del _ h.nd, if_neg (Ne.symm hne)]; exact h.dir
  · rw [Dk.has_get, Dk.get_del _ h.nd, if_neg (Ne.symm hne)]; exact h.has
  · rw [Dk.at_get, Dk.get_del _ h.nd]
    by_cases e : y = p
    · rw [if_pos e]; rfl
    · rw [if_neg e]; exact h.files y hy
theorem SysU.may (h : SysU D) {p : List UInt8} (hp : sysF p) : D.may p 1 = 0 := by
  obtain ⟨h1, h2, _, _⟩ := sysF_ok hp
  unfold Dk.may
  rw [h.up, if_neg (by decide), if_neg (fun hh => hh h1), if_neg (by rw [h2]; decide)]
theorem SysC.under (h : SysC D) {p : List UInt8} (hp : sysF p) : D.under p = true := by
  obtain ⟨_, h2, h3, _⟩ := sysF_ok hp
  unfold Dk.under
  rw [if_neg (by rw [h2]; decide), h3, h.dir]
theorem SysU.file (h : SysU D) {p : List UInt8} (hp : sysF p) (hh : D.has p = true) : D.file p = 0 := by
  unfold Dk.file
  rw [h.may hp, if_neg (fun hh => hh rfl), if_pos hh, h.c.files p hp, if_neg (by decide)]
theorem stepE0 {D : Dk} (h : D.armed = 0) : D.stepE = 14 := if_pos h
theorem stepE1 {D : Dk} (h : ¬ D.armed = 0) : D.stepE = 0 := if_neg h
theorem SysU.append (h : SysU D) {p r : List UInt8} (hp : sysF p) (hh : D.has p = true) (hz : (D.at p).data.length + r.length ≤ CB) (hkd : (D.at p).kept.length ≤ (D.at p).data.length) :
    (D.append p r).1 = 14 ∧ Halt D (D.append p r).2 ∨ (D.append p r).1 = 0 ∧ SysU (D.append p r).2 ∧ ∀ y, (D.append p r).2.get y = if y = p then some { D.at p with data := (D.at p).data ++ r, loose := true, stamp := IntKind.i64.wrap (D.stamps + 1) } else D.get y := by
  by_cases ha : D.armed = 0
  · have e : D.append p r = (14, D.step) := by
      unfold Dk.append
      rw [h.file hp hh, if_neg (fun hh => hh rfl), stepE0 ha, if_pos (by decide)]
    rw [e]
    exact .inl ⟨rfl, h.c.halt⟩
  · have e : D.append p r = (0, D.step.set p { D.at p with data := (D.at p).data ++ r, loose := true }) := by
      unfold Dk.append
      rw [h.file hp hh, if_neg (fun hh => hh rfl), stepE1 ha, if_neg (fun hh => hh rfl), Dk.step_at]
    rw [e]
    have hk := h.c.kp.at_ p
    refine .inr ⟨rfl, ⟨h.c.step.set hp (h.c.files p hp) ⟨?_, hk.2.1, fun _ ha => ?_⟩, (h.step ha).up⟩, fun y => ?_⟩
    · show ((D.at p).data ++ r).length ≤ CB
      rw [List.length_append]; exact hz
    · show (D.at p).kept.length ≤ ((D.at p).data ++ r).length
      rw [List.length_append]
      omega
    · rw [Dk.get_set, Dk.get_step, step_stamps]
theorem SysU.sync (h : SysU D) {p : List UInt8} (hp : sysF p) (hh : D.has p = true) :
    (D.sync p).1 = 14 ∧ Halt D (D.sync p).2 ∨ (D.sync p).1 = 0 ∧ SysU (D.sync p).2 ∧ ∀ y, (D.sync p).2.get y = if y = p then some { D.at p with kept := (D.at p).data, loose := false, anew := false } else D.get y := by
  by_cases ha : D.armed = 0
  · have e : D.sync p = (14, D.step) := by
      unfold Dk.sync
      rw [h.file hp hh, if_neg (fun hh => hh rfl), stepE0 ha, if_pos (by decide)]
    rw [e]
    exact .inl ⟨rfl, h.c.halt⟩
  · have e : D.sync p = (0, { D.step with items := mset D.step.items p { D.at p with kept := (D.at p).data, loose := false, anew := false } }) := by
      unfold Dk.sync
      rw [h.file hp hh, if_neg (fun hh => hh rfl), stepE1 ha, if_neg (fun hh => hh rfl), Dk.step_at]
    rw [e]
    have hk := h.c.kp.at_ p
    refine .inr ⟨rfl, ⟨h.c.step.put hp (h.c.files p hp) ⟨hk.1, hk.1, fun hh => by cases hh⟩, (h.step ha).up⟩, fun y => ?_⟩
    rw [Dk.get_put, Dk.get_step]
theorem SysU.write (h : SysU D) {p r : List UInt8} (hp : sysF p) (hz : r.length ≤ CB) :
    (D.write p r).1 = 14 ∧ Halt D (D.write p r).2 ∨ (D.write p r).1 = 0 ∧ SysU (D.write p r).2 ∧ ∀ y, (D.write p r).2.get y = if y = p then some { D.at p with data := r, loose := true, anew := true, stamp := IntKind.i64.wrap (D.stamps + 1) } else D.get y := by
  by_cases ha : D.armed = 0
  · have e : D.write p r = (14, D.step) := by
      unfold Dk.write
      rw [h.may hp, if_neg (fun hh => hh rfl), h.c.under hp, if_neg (by decide), h.c.files p hp, if_neg (by decide), stepE0 ha, if_pos (by decide)]
    rw [e]
    exact .inl ⟨rfl, h.c.halt⟩
  · have e : D.write p r = (0, D.step.set p { D.at p with data := r, loose := true, anew := true }) := by
      unfold Dk.write
      rw [h.may hp, if_neg (fun hh => hh rfl), h.c.under hp, if_neg (by decide), h.c.files p hp, if_neg (by decide), stepE1 ha, if_neg (fun hh => hh rfl)]
    rw [e]
    have hk := h.c.kp.at_ p
    refine .inr ⟨rfl, ⟨h.c.step.set hp (h.c.files p hp) ⟨hz, hk.2.1, fun _ hh => by cases hh⟩, (h.step ha).up⟩, fun y => ?_⟩
    rw [Dk.get_set, Dk.get_step, step_stamps]
theorem SysU.rename (h : SysU D) {p r : List UInt8} (hp : sysF p) (hr : sysF r) (hh : D.has p = true) :
    (D.rename p r).1 = 14 ∧ Halt D (D.rename p r).2 ∨ (D.rename p r).1 = 0 ∧ SysU (D.rename p r).2 ∧ ∀ y, (D.rename p r).2.get y = if y = r then some { D.at p with stamp := IntKind.i64.wrap (D.stamps + 1) } else if y = p then none else D.get y := by
  by_cases ha : D.armed = 0
  · have e : D.rename p r = (14, D.step) := by
      unfold Dk.rename
      rw [h.may hp, if_neg (fun hh => hh rfl), h.may hr, if_neg (fun hh => hh rfl), hh, h.c.under hr, if_neg (by simp), h.c.files p hp, h.c.files r hr, if_neg (by simp), stepE0 ha, if_pos (by decide)]
    rw [e]
    exact .inl ⟨rfl, h.c.halt⟩
  · have e : D.rename p r = (0, (D.step.del p).set r (D.at p)) := by
      unfold Dk.rename
      rw [h.may hp, if_neg (fun hh => hh rfl), h.may hr, if_neg (fun hh => hh rfl), hh, h.c.under hr, if_neg (by simp), h.c.files p hp, h.c.files r hr, if_neg (by simp), stepE1 ha, if_neg (fun hh => hh rfl)]
    rw [e]
    refine .inr ⟨rfl, ⟨(h.c.step.del hp).set hr (h.c.files p hp) (h.c.kp.at_ p), (h.step ha).up⟩, fun y => ?_⟩
    rw [Dk.get_set, Dk.get_del _ h.c.step.nd, Dk.get_step]
    have : (D.step.del p).stamps = D.stamps := step_stamps D
    rw [this]
/-- a file put in its place as a whole, or not at all -/
theorem SysU.fill (h : SysU D) {p s : List UInt8} (hp : sysF p) (ht : sysF (p ++ [95, 116])) (hne : p ++ [95, 116] ≠ p) (hz : s.length ≤ CB) :
    (D.fill p s).1 = 14 ∧ SysC (D.fill p s).2 ∧ (∀ y, y ≠ p ++ [95, 116] → (D.fill p s).2.get y = D.get y) ∨
    (D.fill p s).1 = 0 ∧ SysU (D.fill p s).2 ∧ Kept (D.fill p s).2 p s ∧ ∀ y, y ≠ p → y ≠ p ++ [95, 116] → (D.fill p s).2.get y = D.get y := by
  rcases h.write (r := s) ht hz with ⟨w1, w2, w3⟩ | ⟨w1, w2, w3⟩
  · have e : D.fill p s = D.write (p ++ [95, 116]) s := by unfold Dk.fill; rw [if_pos (by rw [w1]; decide)]
    rw [e]
    exact .inl ⟨w1, w2, fun y _ => w3 y⟩
  have g1 := w3 (p ++ [95, 116])
  rw [if_pos rfl] at g1
  rcases w2.sync ht (has_of_get g1) with ⟨s1, s2, s3⟩ | ⟨s1, s2, s3⟩
  · have e : D.fill p s = (D.write (p ++ [95, 116]) s).2.sync (p ++ [95, 116]) := by unfold Dk.fill; rw [if_neg (fun hh => hh w1), if_pos (by rw [s1]; decide)]
    rw [e]
    exact .inl ⟨s1, s2, fun y hy => by rw [s3, w3, if_neg hy]⟩
  have g2 := s3 (p ++ [95, 116])
  rw [if_pos rfl, at_of_get g1] at g2
  have e : D.fill p s = ((D.write (p ++ [95, 116]) s).2.sync (p ++ [95, 116])).2.rename (p ++ [95, 116]) p := by
    unfold Dk.fill
    rw [if_neg (fun hh => hh w1), if_neg (fun hh => hh s1)]
  rw [e]
  rcases s2.rename ht hp (has_of_get g2) with ⟨r1, r2, r3⟩ | ⟨r1, r2, r3⟩
  · exact .inl ⟨r1, r2, fun y hy => by rw [r3, s3, if_neg hy, w3, if_neg hy]⟩
  · refine .inr ⟨r1, r2, ⟨_, by rw [r3, if_pos rfl], ?_⟩, fun y h1 h2 => by rw [r3, if_neg h1, if_neg h2, s3, if_neg h2, w3, if_neg h2]⟩
    rw [at_of_get g2]
    exact ⟨h.c.files _ ht, rfl, rfl, rfl, rfl⟩
/-- the journal's file with a record that was not made sure -/
def LogTorn (D : Dk) (s r : List UInt8) : Prop := ∃ x, D.get sysL = some x ∧ x.dir = false ∧ x.data = s ++ r ∧ x.kept = s ∧ x.loose = true ∧ x.anew = false
theorem Kept.halt {D D' : Dk} {p s : List UInt8} (h : Kept D p s) (hg : D'.get p = D.get p) : Kept D' p s := by obtain ⟨x, h1, h2⟩ := h; exact ⟨x, hg.trans h1, h2⟩
theorem Kept.lens {p s : List UInt8} (h : Kept D p s) : (D.at p).data.length = s.length ∧ (D.at p).kept.length = s.length := by
  obtain ⟨x, e1, e2, e3, e4, _⟩ := h
  rw [at_of_get e1, e3, e4]
  exact ⟨rfl, rfl⟩
theorem SysU.walAdd (h : SysU D) {s : List UInt8} (hk : Kept D sysL s) (recs : List (List UInt8)) (dmg : Bool) (r : List UInt8) (hz : s.length + (packE r).length ≤ CB) :
    ∃ e G' D', walAdd ⟨sysL, recs, dmg⟩ D r = (e, G', D') ∧
      (e = 14 ∧ Halt D D' ∨ e = 14 ∧ SysC D' ∧ LogTorn D' s (packE r) ∧ (∀ y, y ≠ sysL → D'.get y = D.get y) ∨
       e = 0 ∧ G' = ⟨sysL, recs ++ [r], dmg⟩ ∧ SysU D' ∧ Kept D' sysL (s ++ packE r) ∧ ∀ y, y ≠ sysL → D'.get y = D.get y) := by
  obtain ⟨l1, l2⟩ := hk.lens
  obtain ⟨d1, d2⟩ := hk.data
  unfold Go.Proofs.YtmofcalcdjoicaaGreatDoor.walAdd
  dsimp only
  rcases h.append (r := packE r) sysF_L hk.has (by omega) (by omega) with ⟨a1, a2⟩ | ⟨a1, a2, a3⟩
  · rw [if_pos (by rw [a1]; decide)]
    exact ⟨_, _, _, rfl, .inl ⟨a1, a2⟩⟩
  · rw [if_neg (fun hh => hh a1)]
    have g1 := a3 sysL
    rw [if_pos rfl] at g1
    rcases a2.sync sysF_L (has_of_get g1) with ⟨s1, s2, s3⟩ | ⟨s1, s2, s3⟩
    · rw [if_pos (by rw [s1]; decide)]
      refine ⟨_, _, _, rfl, .inr (.inl ⟨s1, s2, ⟨_, (s3 sysL).trans g1, d2, by rw [← d1], ?_, rfl, ?_⟩, fun y hy => by rw [s3, a3, if_neg hy]⟩)⟩
      · obtain ⟨x, e1, e2, e3, e4, _⟩ := hk
        show (D.at sysL).kept = s
        rw [at_of_get e1, e4]
      · obtain ⟨x, e1, e2, e3, e4, e5, e6⟩ := hk
        show (D.at sysL).anew = false
        rw [at_of_get e1, e6]
    · rw [if_neg (fun hh => hh s1)]
      have g2 := s3 sysL
      rw [if_pos rfl, at_of_get g1] at g2
      exact ⟨_, _, _, rfl, .inr (.inr ⟨rfl, rfl, s2, ⟨_, g2, d2, by rw [← d1], by rw [← d1], rfl, rfl⟩, fun y hy => by rw [s3, if_neg hy, a3, if_neg hy]⟩)⟩
theorem SysU.pack (h : SysU D) {s : List UInt8} (hk : Kept D sysL s) {bs : Option (List Chg)} (hb : baseIs D bs) (rows : Rws) (recs : List (List UInt8)) (dmg : Bool) (hz : (packE (recordE (packL rows))).length ≤ CB) :
    ∃ e T' D', tabPack ⟨sysP, rows, ⟨sysL, recs, dmg⟩⟩ D = (e, T', D') ∧
      (e = 14 ∧ SysC D' ∧ Kept D' sysL s ∧ (baseIs D' bs ∨ baseIs D' (some (packL rows))) ∨
       e = 0 ∧ T' = ⟨sysP, rows, ⟨sysL, [], dmg⟩⟩ ∧ SysU D' ∧ Kept D' sysL [] ∧ baseIs D' (some (packL rows))) := by
  unfold tabPack
  dsimp only
  rw [show baseP sysP = sysB from rfl]
  rcases h.fill (p := sysB) (s := packE (recordE (packL rows))) sysF_B sysF_BT (by decide) hz with ⟨f1, f2, f3⟩ | ⟨f1, f2, f3, f4⟩
  · rw [if_pos (by rw [f1]; decide)]
    exact ⟨_, _, _, rfl, .inl ⟨f1, f2, hk.halt (f3 _ (by decide)), .inl (baseIs_same (f3 _ (by decide)) hb)⟩⟩
  · rw [if_neg (fun hh => hh f1)]
    have hk2 := hk.halt (f4 sysL (by decide) (by decide))
    rcases f2.fill (p := sysL) (s := []) sysF_L sysF_LT (by decide) (Nat.zero_le _) with ⟨g1, g2, g3⟩ | ⟨g1, g2, g3, g4⟩
    · exact ⟨_, _, _, rfl, .inl ⟨g1, g2, hk2.halt (g3 _ (by decide)), .inr (baseIs_same (bs := some (packL rows)) (g3 _ (by decide)) f3)⟩⟩
    · exact ⟨_, _, _, rfl, .inr ⟨g1, by rw [g1]; rfl, g2, g3, baseIs_same (bs := some (packL rows)) (g4 _ (by decide) (by decide)) f3⟩⟩
/-- what lies on a disk, whatever is armed -/
structure TabC (D : Dk) (bs : Option (List Chg)) (ls : List (List Chg)) : Prop where
  c : SysC D
  log : Kept D sysL (frames (ls.map recordE))
  base : baseIs D bs
/-- where a commit was stopped -/
def Crash (D' : Dk) (bs : Option (List Chg)) (ls : List (List Chg)) (rows : Rws) (ops : List Chg) : Prop :=
  TabC D' bs ls ∨ (SysC D' ∧ LogTorn D' (frames (ls.map recordE)) (packE (recordE ops)) ∧ baseIs D' bs) ∨ TabC D' bs (ls ++ [ops]) ∨ TabC D' (some (packL (applyE rows ops))) (ls ++ [ops])
theorem frames_snoc (ls : List (List Chg)) (ops : List Chg) : frames ((ls ++ [ops]).map recordE) = frames (ls.map recordE) ++ packE (recordE ops) := by rw [← map_snoc, frames_app, frames_one]
theorem TabC.commit (h : TabC D bs ls) (hu : D.down = false) (rows : Rws) (ops : List Chg) (hne : ops ≠ []) (hz : (frames (ls.map recordE)).length + (packE (recordE ops)).length ≤ CB) (hz2 : (packE (recordE (packL (applyE rows ops)))).length ≤ CB) :
    ∃ e T' D', tabCommit ⟨sysP, rows, ⟨sysL, ls.map recordE, false⟩⟩ D ops = (e, T', D') ∧
      (e = 14 ∧ Crash D' bs ls rows ops ∨
       e = 0 ∧ D'.down = false ∧ ∃ bs' ls', T' = ⟨sysP, applyE rows ops, ⟨sysL, ls'.map recordE, false⟩⟩ ∧ TabC D' bs' ls' ∧ (bs' = bs ∧ ls' = ls ++ [ops] ∧ ls.length + 1 < 16 ∨ bs' = some (packL (applyE rows ops)) ∧ ls' = [])) := by
  obtain ⟨e, G', D', hwa, hc⟩ := SysU.walAdd ⟨h.c, hu⟩ h.log (ls.map recordE) false (recordE ops) hz
  unfold tabCommit
  dsimp only
  rw [if_neg hne, hwa]
  dsimp only
  rcases hc with ⟨rfl, h1, h2⟩ | ⟨rfl, h1, h2, h3⟩ | ⟨rfl, rfl, h2, h3, h4⟩
  · rw [if_pos (by decide)]
    exact ⟨_, _, _, rfl, .inl ⟨rfl, .inl ⟨h1, h.log.halt (h2 _), baseIs_same (h2 _) h.base⟩⟩⟩
  · rw [if_pos (by decide)]
    exact ⟨_, _, _, rfl, .inl ⟨rfl, .inr (.inl ⟨h1, h2, baseIs_same (h3 _ (by decide)) h.base⟩)⟩⟩
  · rw [if_neg (fun hh => hh rfl)]
    have hb := baseIs_same (h4 sysB (by decide)) h.base
    have h3' : Kept D' sysL (frames ((ls ++ [ops]).map recordE)) := by rw [frames_snoc]; exact h3
    by_cases hf : ls.length + 1 < 16
    · rw [if_neg (by simp; omega)]
      exact ⟨_, _, _, rfl, .inr ⟨rfl, h2.up, bs, ls ++ [ops], by rw [map_snoc], ⟨h2.c, h3', hb⟩, .inl ⟨rfl, rfl, hf⟩⟩⟩
    · rw [if_pos (by simp; omega)]
      obtain ⟨e, T', D2, hp, hc⟩ := h2.pack h3' hb (applyE rows ops) (ls.map recordE ++ [recordE ops]) false hz2
      refine ⟨_, _, _, hp, ?_⟩
      rcases hc with ⟨rfl, c1, c2, c3 | c3⟩ | ⟨rfl, rfl, c2, c3, c4⟩
      · exact .inl ⟨rfl, .inr (.inr (.inl ⟨c1, c2, c3⟩))⟩
      · exact .inl ⟨rfl, .inr (.inr (.inr ⟨c1, c2, c3⟩))⟩
      · exact .inr ⟨rfl, c2.up, _, [], rfl, ⟨c2.c, c3, c4⟩, .inr ⟨rfl, rfl⟩⟩
/-! ## behind the next beginning -/
def lostI (loss n st : Int) (x : It) : It := if x.loose then ⟨x.dir, loseK loss n x, loseK loss n x, false, false, st⟩ else x
def LoseR (loss : Int) (a b : Option It) : Prop := (a = none → b = none) ∧ ∀ x, a = some x → ∃ n st, b = some (lostI loss n st x)
theorem lose1_get (loss : Int) (s : Int × Dk) (p y : List UInt8) : (y ≠ p → (lose1 loss s p).2.get y = s.2.get y) ∧ (y = p → LoseR loss (s.2.get y) ((lose1 loss s p).2.get y)) := by
  unfold lose1
  split
  · rename_i hl
    refine ⟨fun h => by rw [Dk.get_set, if_neg h], fun h => ?_⟩
    subst h
    rw [Dk.get_set, if_pos rfl]
    refine ⟨fun h => ?_, fun x h => ?_⟩
    · rw [Dk.at_get, h] at hl; cases hl
    · have ha := at_of_get h
      rw [ha] at hl ⊢
      refine ⟨s.1 + 1, IntKind.i64.wrap (s.2.stamps + 1), ?_⟩
      unfold lostI
      rw [if_pos hl]
  · rename_i hl
    refine ⟨fun _ => rfl, fun h => ?_⟩
    subst h
    refine ⟨fun h => h, fun x h => ⟨0, 0, ?_⟩⟩
    have ha := at_of_get h
    rw [ha] at hl
    unfold lostI
    rw [if_neg hl]
    exact h
theorem lose_fold (loss : Int) : ∀ (ks : List (List UInt8)) (s : Int × Dk), ks.Nodup → ∀ y, (y ∉ ks → (ks.foldl (lose1 loss) s).2.get y = s.2.get y) ∧ (y ∈ ks → LoseR loss (s.2.get y) ((ks.foldl (lose1 loss) s).2.get y))
  | [], s, _, y => ⟨fun _ => rfl, fun h => by simp at h⟩
  | k :: ks, s, hn, y => by
    obtain ⟨hk, hn⟩ := List.nodup_cons.1 hn
    obtain ⟨i1, i2⟩ := lose_fold loss ks (lose1 loss s k) hn y
    obtain ⟨j1, j2⟩ := lose1_get loss s k y
    rw [List.foldl_cons]
    refine ⟨fun h => ?_, fun h => ?_⟩
    · have h : y ≠ k ∧ y ∉ ks := by simpa using h
      rw [i1 h.2, j1 h.1]
    · by_cases e : y = k
      · have := i1 (by rw [e]; exact hk)
        rw [this]
        exact j2 e
      · have hm : y ∈ ks := by
          rcases List.mem_cons.1 h with h | h
          · exact absurd h e
          · exact h
        have := i2 hm
        rwa [j1 e] at this
theorem SysC.lose1 {loss : Int} {s : Int × Dk} (h : SysC s.2) {p : List UInt8} (hp : p = sysP ∨ sysF p) : SysC (Go.Proofs.YtmofcalcdjoicaaGreatDoor.lose1 loss s p).2 := by
  unfold Go.Proofs.YtmofcalcdjoicaaGreatDoor.lose1
  split
  · rename_i hl
    rcases hp with rfl | hp
    · rw [h.firm] at hl; cases hl
    · have hk := h.kp.at_ p
      have := loseK_len loss (s.1 + 1) (s.2.at p) hk.1 hk.2.1
      exact h.set hp (h.files p hp) ⟨this, this, fun hh => by cases hh⟩
  · exact h
theorem SysC.loses {loss : Int} : ∀ {ks : List (List UInt8)} {s : Int × Dk}, SysC s.2 → (∀ p ∈ ks, p = sysP ∨ sysF p) → SysC (ks.foldl (Go.Proofs.YtmofcalcdjoicaaGreatDoor.lose1 loss) s).2
  | [], _, h, _ => h
  | k :: ks, s, h, hk => SysC.loses (ks := ks) (s := Go.Proofs.YtmofcalcdjoicaaGreatDoor.lose1 loss s k) (h.lose1 (hk k (List.mem_cons_self ..))) fun p hp => hk p (List.mem_cons_of_mem _ hp)
theorem SysC.restart (h : SysC D) (loss : Int) : Sys (D.restart loss) ∧ SysC (D.restart loss) ∧ ∀ y, LoseR loss (D.get y) ((D.restart loss).get y) := by
  have hperm : D.keys.Perm (D.items.map Prod.fst) := List.mergeSort_perm _ _
  have hks : ∀ p ∈ D.keys, p = sysP ∨ sysF p := fun p hp => by
    obtain ⟨x, hx, rfl⟩ := List.mem_map.1 (hperm.mem_iff.1 hp)
    exact h.keys x hx
  have h1 : SysC (D.lose loss).2 := SysC.loses (s := (0, D)) h hks
  have h2 : SysC (D.restart loss) := ⟨h1.lim, h1.nd, h1.dir, h1.has, h1.files, h1.keys, h1.kp, h1.firm⟩
  refine ⟨⟨rfl, (by decide : (-1 : Int) < 0), h2.lim, h2.nd, h2.dir, h2.has, h2.files⟩, h2, fun y => ?_⟩
  have hf := lose_fold loss D.keys (0, D) (hperm.nodup_iff.2 h.nd) y
  by_cases hy : y ∈ D.keys
  · exact hf.2 hy
  · have hg : (D.restart loss).get y = D.get y := hf.1 hy
    have hn : D.get y = none := mget_none.2 fun hh => hy (hperm.mem_iff.2 hh)
    rw [hg, hn]
    exact ⟨fun h => h, fun x hx => by cases hx⟩
theorem LoseR.kept {D' : Dk} {loss : Int} {p s : List UInt8} (h : LoseR loss (D.get p) (D'.get p)) (hk : Kept D p s) : Kept D' p s := by
  obtain ⟨x, h1, h2, h3, h4, h5, h6⟩ := hk
  obtain ⟨n, st, e⟩ := h.2 x h1
  refine ⟨x, ?_, h2, h3, h4, h5, h6⟩
  rw [e]
  unfold lostI
  rw [h5]
  rfl
theorem LoseR.base {D' : Dk} {loss : Int} (h : LoseR loss (D.get sysB) (D'.get sysB)) (hb : baseIs D bs) : baseIs D' bs := by
  cases bs with
  | none => exact h.1 hb
  | some ops => exact LoseR.kept h hb
theorem LoseR.torn {D' : Dk} {loss : Int} {s r : List UInt8} (h : LoseR loss (D.get sysL) (D'.get sysL)) (ht : LogTorn D s r) : ∃ m, m ≤ r.length ∧ Kept D' sysL (s ++ r.take m) := by
  obtain ⟨⟨dir, data, kept, loose, anew, stamp⟩, h1, h2, h3, h4, h5, h6⟩ := ht
  dsimp only at h2 h3 h4 h5 h6
  rw [h2, h3, h4, h5, h6] at h1
  clear h2 h3 h4 h5 h6
  obtain ⟨n, st, e⟩ := h.2 _ h1
  have he0 := Int.emod_nonneg (mixE (IntKind.u64.wrap loss) n) (show (((s ++ r).length : Int) - s.length + 1) ≠ 0 by rw [List.length_append]; omega)
  have he1 := Int.emod_lt_of_pos (mixE (IntKind.u64.wrap loss) n) (show (0 : Int) < ((s ++ r).length : Int) - s.length + 1 by rw [List.length_append]; omega)
  obtain ⟨m, hm⟩ : ∃ mm : Nat, mixE (IntKind.u64.wrap loss) n % (((s ++ r).length : Int) - s.length + 1) = (mm : Int) := ⟨_, (Int.toNat_of_nonneg he0).symm⟩
  rw [hm] at he0 he1
  have hml : m ≤ r.length := by rw [List.length_append] at he1; omega
  have hK : loseK loss n ⟨false, s ++ r, s, true, false, stamp⟩ = s ++ r.take m := by
    unfold loseK
    rw [if_neg (show ¬ false = true by decide)]
    dsimp only
    rw [hm, show ((s.length : Int) + (m : Int)).toNat = s.length + m by omega, List.take_append, List.take_of_length_le (by omega), Nat.add_sub_cancel_left]
  refine ⟨m, hml, _, e, ?_⟩
  unfold lostI
  rw [if_pos (show true = true from rfl), hK]
  exact ⟨rfl, rfl, rfl, rfl, rfl⟩
end
end Go.Proofs.YtmofcalcdjoicaaGreatDoor

/- What is proved: a table opened behind a beginning, wherever the machine stops in it. Conditions: as each names them. -/
set_option linter.unusedSimpArgs false
set_option linter.unusedVariables false
namespace Go.Proofs.YtmofcalcdjoicaaGreatDoor
open Go Go.J Go.RowKit

/-- sizes that a law's bound leaves, with a journal that was to be packed -/
structure TabW (bs : Option (List Chg)) (ls : List (List Chg)) : Prop where
  few : ls.length ≤ 16
  clean : ∀ l ∈ ls, Clean l
  small : ∀ l ∈ ls, szL l ≤ 8000000
  bclean : Clean (bs.getD [])
  bsmall : szL (bs.getD []) ≤ 100000000
/-- a disk behind a beginning: the journal's end may be torn -/
structure Post (D : Dk) (bs : Option (List Chg)) (ls : List (List Chg)) : Prop where
  c : SysC D
  log : ∃ tail, Kept D sysL (frames (ls.map recordE) ++ tail) ∧ (tail = [] ∨ ∃ r j, tail = (packE r).take j ∧ 0 < j ∧ j < (packE r).length ∧ r.length < 9223372036854775808)
  base : baseIs D bs
section
variable {D : Dk} {bs : Option (List Chg)} {ls : List (List Chg)}
theorem TabC.post (h : TabC D bs ls) : Post D bs ls := ⟨h.c, ⟨[], by rw [List.append_nil]; exact h.log, .inl rfl⟩, h.base⟩
theorem Kept.readU {p s : List UInt8} (h : Kept D p s) (hu : D.down = false) : D.read p = (s, 0) := by
  obtain ⟨h1, h2⟩ := h.data
  unfold Dk.read
  rw [hu, if_neg (by decide), h.has, if_neg (by decide), h2, if_neg (by decide), h1]
theorem SysC.kindP (h : SysC D) : D.kind sysP = 1 := by
  unfold Dk.kind
  rw [h.has, if_pos rfl, h.dir, if_pos rfl]
theorem tabBase_of (hu : D.down = false) (hbase : baseIs D bs) (hw : TabW bs ls) : tabBase D sysP = (0, applyE [] (bs.getD [])) := by
  have hbp : baseP sysP = sysB := rfl
  unfold tabBase
  rw [hbp]
  cases bs with
  | none =>
    have hbase : D.get sysB = none := hbase
    have hk : D.kind sysB = 0 := by unfold Dk.kind; rw [Dk.has_get, hbase]; rfl
    rw [if_pos hk]
    rfl
  | some ops =>
    have hbase : Kept D sysB (packE (recordE ops)) := hbase
    have hsm : szL ops ≤ 100000000 := hw.bsmall
    have hl := szL_len ops
    have hrl := recordE_len ops (smO_of (by omega)) (by omega)
    have ho := opsE_record ops (smO_of (by omega)) (by omega)
    rw [norm_clean (show Clean ops from hw.bclean)] at ho
    rw [hbase.kind, if_neg (by decide)]
    unfold tabLoad
    rw [hbp, hbase.readU hu]
    dsimp only
    rw [if_neg (fun h => h rfl), readE_pack0 _ (by omega)]
    dsimp only
    rw [if_neg (fun h => h rfl), if_neg (Nat.lt_irrefl _), ho]
    dsimp only
    rw [if_neg (fun h => h rfl)]
    rfl
theorem TabW.recs (hw : TabW bs ls) : ∀ r ∈ ls.map recordE, r.length ≤ 8000010 := fun r hr => by
  obtain ⟨l, hl, rfl⟩ := List.mem_map.1 hr
  have h1 := hw.small l hl
  have h2 := szL_len l
  have := recordE_len l (smO_of (by omega)) (by omega)
  omega
theorem TabW.frames (hw : TabW bs ls) : (frames (ls.map recordE)).length ≤ 128001000 := by
  have h1 := frames_len (ls.map recordE) 8000010 hw.recs (by decide)
  have h2 := hw.few
  rw [List.length_map] at h1
  have h3 : ls.length * (8000010 + 14) ≤ 16 * (8000010 + 14) := Nat.mul_le_mul_right _ h2
  omega
/-- what opening is, once the journal is -/
theorem open_of (h : SysC D) (hu : D.down = false) (hb : baseIs D bs) (hw : TabW bs ls) : tabOpen D sysP = tabLog sysP (applyE [] (bs.getD [])) (walOpen D sysL) := by
  have hmk : tabMk D sysP = (0, D) := by unfold tabMk; rw [h.kindP, if_neg (by decide)]
  unfold tabOpen
  rw [hmk]
  dsimp only
  rw [if_neg (fun h => h rfl), tabBase_of hu hb hw]
  dsimp only
  rw [if_neg (fun h => h rfl)]
  rfl
theorem tabLog_of (hw : TabW bs ls) (D' : Dk) : tabLog sysP (applyE [] (bs.getD [])) (0, some ⟨sysL, ls.map recordE, false⟩, D') = (0, some ⟨sysP, rowsOf bs ls, ⟨sysL, ls.map recordE, false⟩⟩, D') := by
  unfold tabLog
  dsimp only
  rw [replay_recs ls _ hw.clean (fun l hl => by have := hw.small l hl; omega), if_neg (fun h => h rfl)]
  rfl
theorem Post.wopen (h : Post D bs ls) (hu : D.down = false) (hw : TabW bs ls) :
    ∃ D', walOpen D sysL = (0, some ⟨sysL, ls.map recordE, false⟩, D') ∧ D'.down = false ∧ Post D' bs ls ∨ walOpen D sysL = (14, none, D') ∧ Post D' bs ls := by
  obtain ⟨tail, hk, ht⟩ := h.log
  have hrs : ∀ r ∈ ls.map recordE, r.length < 9223372036854775808 := fun r hr => by have := hw.recs r hr; omega
  rcases ht with rfl | ⟨r, j, rfl, h0, hj, hr⟩
  · refine ⟨D, .inl ⟨?_, hu, h⟩⟩
    rw [List.append_nil] at hk
    unfold Go.Proofs.YtmofcalcdjoicaaGreatDoor.walOpen
    rw [hk.kind, if_neg (by decide), hk.readU hu]
    dsimp only
    rw [if_neg (fun h => h rfl), scanE_whole _ hrs]
    rfl
  · have hsc := scanE_torn (ls.map recordE) r j (fun u hu => by
      rcases List.mem_append.1 hu with hu | hu
      · exact hrs u hu
      · rw [List.mem_singleton.1 hu]; exact hr) hj h0
    have hf := hw.frames
    have htk : (frames (ls.map recordE) ++ (packE r).take j).take (frames (ls.map recordE)).length = frames (ls.map recordE) := by simp
    unfold Go.Proofs.YtmofcalcdjoicaaGreatDoor.walOpen
    rw [hk.kind, if_neg (by decide), hk.readU hu]
    dsimp only
    rw [if_neg (fun h => h rfl), hsc]
    dsimp only
    rw [if_pos (by decide), htk]
    rcases SysU.fill (p := sysL) (s := frames (ls.map recordE)) ⟨h.c, hu⟩ sysF_L sysF_LT (by decide) (by unfold CB; omega) with ⟨f1, f2, f3⟩ | ⟨f1, f2, f3, f4⟩
    · rw [if_pos (by rw [f1]; decide), f1]
      exact ⟨_, .inr ⟨rfl, f2, ⟨_, hk.halt (f3 _ (by decide)), .inr ⟨r, j, rfl, h0, hj, hr⟩⟩, baseIs_same (f3 _ (by decide)) h.base⟩⟩
    · rw [if_neg (fun hh => hh f1)]
      exact ⟨_, .inl ⟨rfl, f2.up, TabC.post ⟨f2.c, f3, baseIs_same (f4 _ (by decide) (by decide)) h.base⟩⟩⟩
theorem Post.open (h : Post D bs ls) (hu : D.down = false) (hw : TabW bs ls) :
    ∃ D', tabOpen D sysP = (0, some ⟨sysP, rowsOf bs ls, ⟨sysL, ls.map recordE, false⟩⟩, D') ∧ Post D' bs ls ∨ tabOpen D sysP = (14, none, D') ∧ Post D' bs ls := by
  obtain ⟨D', ⟨h1, h2, h3⟩ | ⟨h1, h2⟩⟩ := h.wopen hu hw
  · exact ⟨D', .inl ⟨by rw [open_of h.c hu h.base hw, h1]; exact tabLog_of hw D', h3⟩⟩
  · exact ⟨D', .inr ⟨by rw [open_of h.c hu h.base hw, h1]; rfl, h2⟩⟩
/-- opened on a calm disk -/
theorem Post.openCalm (h : Post D bs ls) (hs : Sys D) (hw : TabW bs ls) : ∃ D', tabOpen D sysP = (0, some ⟨sysP, rowsOf bs ls, ⟨sysL, ls.map recordE, false⟩⟩, D') := by
  obtain ⟨tail, hk, ht⟩ := h.log
  have hrs : ∀ r ∈ ls.map recordE, r.length < 9223372036854775808 := fun r hr => by have := hw.recs r hr; omega
  rw [open_of h.c hs.up h.base hw]
  rcases ht with rfl | ⟨r, j, rfl, h0, hj, hr⟩
  · have hwo : walOpen D sysL = (0, some ⟨sysL, ls.map recordE, false⟩, D) := by
      rw [List.append_nil] at hk
      unfold Go.Proofs.YtmofcalcdjoicaaGreatDoor.walOpen
      rw [hk.kind, if_neg (by decide), hk.readU hs.up]
      dsimp only
      rw [if_neg (fun h => h rfl), scanE_whole _ hrs]
      rfl
    rw [hwo]
    exact ⟨_, tabLog_of hw D⟩
  · have hsc := scanE_torn (ls.map recordE) r j (fun u hu => by
      rcases List.mem_append.1 hu with hu | hu
      · exact hrs u hu
      · rw [List.mem_singleton.1 hu]; exact hr) hj h0
    have htk : (frames (ls.map recordE) ++ (packE r).take j).take (frames (ls.map recordE)).length = frames (ls.map recordE) := by simp
    obtain ⟨f1, f2, f3, f4, f5⟩ := hs.fill (p := sysL) (s := frames (ls.map recordE)) sysF_L sysF_LT (by decide)
    have hwo : walOpen D sysL = (0, some ⟨sysL, ls.map recordE, false⟩, (D.fill sysL (frames (ls.map recordE))).2) := by
      unfold Go.Proofs.YtmofcalcdjoicaaGreatDoor.walOpen
      rw [hk.kind, if_neg (by decide), hk.readU hs.up]
      dsimp only
      rw [if_neg (fun h => h rfl), hsc]
      dsimp only
      rw [if_pos (by decide), htk, if_neg (fun hh => hh f1)]
      rfl
    rw [hwo]
    exact ⟨_, tabLog_of hw _⟩
/-- behind the next beginning -/
theorem Post.restart (h : Post D bs ls) (loss : Int) : Sys (D.restart loss) ∧ Post (D.restart loss) bs ls := by
  obtain ⟨h1, h2, h3⟩ := h.c.restart loss
  obtain ⟨tail, hk, ht⟩ := h.log
  exact ⟨h1, h2, ⟨tail, (h3 _).kept hk, ht⟩, (h3 _).base h.base⟩
theorem Crash.restart {rows : Rws} {ops : List Chg} (h : Crash D bs ls rows ops) (hr : (recordE ops).length < 9223372036854775808) (loss : Int) :
    ∃ bs' ls', Sys (D.restart loss) ∧ Post (D.restart loss) bs' ls' ∧ (bs' = bs ∧ ls' = ls ∨ bs' = bs ∧ ls' = ls ++ [ops] ∨ bs' = some (packL (applyE rows ops)) ∧ ls' = ls ++ [ops]) := by
  rcases h with h | ⟨h1, h2, h3⟩ | h | h
  · obtain ⟨a, b⟩ := h.post.restart loss
    exact ⟨_, _, a, b, .inl ⟨rfl, rfl⟩⟩
  · obtain ⟨a1, a2, a3⟩ := h1.restart loss
    obtain ⟨m, hm, hk⟩ := (a3 sysL).torn h2
    have hb := (a3 sysB).base h3
    by_cases m0 : m = 0
    · subst m0
      exact ⟨bs, ls, a1, ⟨a2, ⟨_, hk, .inl rfl⟩, hb⟩, .inl ⟨rfl, rfl⟩⟩
    · by_cases m1 : m = (packE (recordE ops)).length
      · subst m1
        rw [List.take_length, ← frames_snoc] at hk
        exact ⟨bs, ls ++ [ops], a1, TabC.post ⟨a2, hk, hb⟩, .inr (.inl ⟨rfl, rfl⟩)⟩
      · exact ⟨bs, ls, a1, ⟨a2, ⟨_, hk, .inr ⟨recordE ops, m, rfl, by omega, by omega, hr⟩⟩, hb⟩, .inl ⟨rfl, rfl⟩⟩
  · obtain ⟨a, b⟩ := h.post.restart loss
    exact ⟨_, _, a, b, .inr (.inl ⟨rfl, rfl⟩)⟩
  · obtain ⟨a, b⟩ := h.post.restart loss
    exact ⟨_, _, a, b, .inr (.inr ⟨rfl, rfl⟩)⟩
end
end Go.Proofs.YtmofcalcdjoicaaGreatDoor

/- What is proved: what a table of one value under three keys holds, wherever the machine stops. Conditions: as each names them. -/
set_option linter.unusedSimpArgs false
set_option linter.unusedVariables false
namespace Go.Proofs.YtmofcalcdjoicaaGreatDoor
open Go Go.J Go.RowKit

def putOps (v : List UInt8) : List Chg := [⟨[97], v, false⟩, ⟨[98], v, false⟩, ⟨[99], v, false⟩, ⟨[100], [], true⟩]
def putM (v : List UInt8) : Bch := [([97], ⟨[97], v, false⟩), ([98], ⟨[98], v, false⟩), ([99], ⟨[99], v, false⟩), ([100], ⟨[100], [], true⟩)]
theorem putM_ops (v : List UInt8) : (putM v).map Prod.snd = putOps v := rfl
theorem putM_note (v : List UInt8) : noteE (noteE (noteE (noteE (noteE [] ⟨[97], v, false⟩) ⟨[98], v, false⟩) ⟨[99], v, false⟩) ⟨[100], v, false⟩) ⟨[100], [], true⟩ = putM v := rfl
def Fv (o : Option (List UInt8)) : List UInt8 → Option (List UInt8) := fun k => if k = [97] ∨ k = [98] ∨ k = [99] then o else none
theorem Fv_none : Fv none = fun _ => none := by funext k; unfold Fv; split <;> rfl
theorem Fv_put (o : Option (List UInt8)) (v : List UInt8) : applyF (Fv o) (putOps v) = Fv (some v) := by
  funext k
  simp only [applyF, putOps, List.foldl_cons, List.foldl_nil, setF, Fv]
  by_cases h1 : k = [97]
  · subst h1; simp
  by_cases h2 : k = [98]
  · subst h2; simp
  by_cases h3 : k = [99]
  · subst h3; simp
  simp [h1, h2, h3]
theorem szL_putOps (v : List UInt8) : szL (putOps v) = 3 * v.length + 132 := by
  simp only [szL, putOps, List.map_cons, List.map_nil, List.sum_cons, List.sum_nil, szO, List.length_cons, List.length_nil]
  omega
theorem clean_putOps (v : List UInt8) : Clean (putOps v) := by
  intro o ho hg
  simp only [putOps, List.mem_cons, List.not_mem_nil, or_false] at ho
  rcases ho with rfl | rfl | rfl | rfl
  · cases hg
  · cases hg
  · cases hg
  · rfl
/-- rows of one value -/
theorem rows_keys {rows : Rws} {o : Option (List UInt8)} (h : RowsAre rows (Fv o)) : ∀ p ∈ rows, (p.1 = [97] ∨ p.1 = [98] ∨ p.1 = [99]) ∧ o = some p.2 := by
  intro p hp
  have h1 : mget rows p.1 = some p.2 := mget_of_mem h.1 hp
  rw [h.2] at h1
  unfold Fv at h1
  split at h1
  · rename_i h2; exact ⟨h2, h1⟩
  · cases h1
theorem rows_few {rows : Rws} {o : Option (List UInt8)} (h : RowsAre rows (Fv o)) : rows.length ≤ 3 := by
  have h1 : (rows.map Prod.fst).Subset [[97], [98], [99]] := fun k hk => by
    obtain ⟨p, hp, rfl⟩ := List.mem_map.1 hk
    rcases (rows_keys h p hp).1 with e | e | e <;> rw [e] <;> simp
  have h2 := h.1.length_le_of_subset h1
  rw [List.length_map] at h2
  exact h2
theorem rows_size {rows : Rws} {o : Option (List UInt8)} (h : RowsAre rows (Fv o)) (hv : ∀ v, o = some v → v.length ≤ 1048576) : szR rows ≤ 3145827 := by
  have h1 : ∀ rows : Rws, (∀ p ∈ rows, p.1.length ≤ 1 ∧ p.2.length ≤ 1048576) → szR rows ≤ rows.length * 1048609 := by
    intro rows
    induction rows with
    | nil => intro _; exact Nat.zero_le _
    | cons p rows ih =>
      intro hp
      have h2 := ih fun q hq => hp q (List.mem_cons_of_mem _ hq)
      have h3 := hp p (List.mem_cons_self ..)
      simp only [szR, List.map_cons, List.sum_cons, List.length_cons, Nat.add_mul] at h2 ⊢
      omega
  have h2 := h1 rows fun p hp => by
    obtain ⟨h3, h4⟩ := rows_keys h p hp
    refine ⟨?_, hv _ h4⟩
    rcases h3 with e | e | e <;> rw [e] <;> decide
  have h3 := rows_few h
  have h4 : rows.length * 1048609 ≤ 3 * 1048609 := Nat.mul_le_mul_right _ h3
  exact Nat.le_trans h2 (Nat.le_trans h4 (by decide))
/-- base and journal of one value's table -/
structure Vals (bs : Option (List Chg)) (ls : List (List Chg)) (o : Option (List UInt8)) : Prop where
  puts : ∀ l ∈ ls, ∃ v, l = putOps v ∧ v.length ≤ 1048576
  few : ls.length ≤ 16
  base : ∃ ob, applyF (fun _ => none) (bs.getD []) = Fv ob
  bclean : Clean (bs.getD [])
  bsmall : szL (bs.getD []) ≤ 100000000
  val : rowsF bs ls = Fv o
section
variable {bs : Option (List Chg)} {ls : List (List Chg)} {o : Option (List UInt8)} {v : List UInt8}
theorem Vals.wf (h : Vals bs ls o) : TabW bs ls := ⟨h.few, fun l hl => by obtain ⟨v, rfl, _⟩ := h.puts l hl; exact clean_putOps v, fun l hl => by obtain ⟨v, rfl, hv⟩ := h.puts l hl; rw [szL_putOps]; omega, h.bclean, h.bsmall⟩
theorem Vals.are (h : Vals bs ls o) : RowsAre (rowsOf bs ls) (Fv o) := by rw [← h.val]; exact rowsOf_are bs ls
theorem puts_snoc (h : ∀ l ∈ ls, ∃ v, l = putOps v ∧ v.length ≤ 1048576) (hv : v.length ≤ 1048576) : ∀ l ∈ ls ++ [putOps v], ∃ v, l = putOps v ∧ v.length ≤ 1048576 := fun l hl => by
  rcases List.mem_append.1 hl with hl | hl
  · exact h l hl
  · rw [List.mem_singleton.1 hl]; exact ⟨v, rfl, hv⟩
theorem fold_Fv : ∀ (ls : List (List Chg)) (o : Option (List UInt8)), (∀ l ∈ ls, ∃ v, l = putOps v ∧ v.length ≤ 1048576) → ∃ o', ls.foldl applyF (Fv o) = Fv o'
  | [], o, _ => ⟨o, rfl⟩
  | l :: ls, o, h => by
    obtain ⟨v, rfl, _⟩ := h l (List.mem_cons_self ..)
    rw [List.foldl_cons, Fv_put]
    exact fold_Fv ls _ fun x hx => h x (List.mem_cons_of_mem _ hx)
theorem Vals.snoc (h : Vals bs ls o) (hv : v.length ≤ 1048576) (hf : ls.length + 1 ≤ 16) : Vals bs (ls ++ [putOps v]) (some v) :=
  ⟨puts_snoc h.puts hv, by rw [List.length_append]; exact hf, h.base, h.bclean, h.bsmall, by
    have e : rowsF bs (ls ++ [putOps v]) = applyF (rowsF bs ls) (putOps v) := by unfold rowsF; rw [List.foldl_append]; rfl
    rw [e, h.val, Fv_put]⟩
theorem packV {rows : Rws} (hr : RowsAre rows (Fv (some v))) (hv : v.length ≤ 1048576) : applyF (fun _ => none) (packL rows) = Fv (some v) ∧ Clean (packL rows) ∧ szL (packL rows) ≤ 100000000 := by
  refine ⟨funext (packL_rows hr), fun o ho hg => ?_, ?_⟩
  · obtain ⟨k, _, rfl⟩ := List.mem_map.1 ho
    cases hg
  · have h1 := szL_pack hr.1
    have h2 := rows_size hr (fun x hx => by cases hx; exact hv)
    omega
theorem Vals.packed {rows : Rws} (hr : RowsAre rows (Fv (some v))) (hv : v.length ≤ 1048576) : Vals (some (packL rows)) [] (some v) := by
  obtain ⟨h1, h2, h3⟩ := packV hr hv
  exact ⟨fun l hl => by simp at hl, by decide, ⟨_, h1⟩, h2, h3, h1⟩
theorem Vals.half {rows : Rws} (h : Vals bs ls o) (hr : RowsAre rows (Fv (some v))) (hv : v.length ≤ 1048576) (hf : ls.length + 1 ≤ 16) : Vals (some (packL rows)) (ls ++ [putOps v]) (some v) := by
  obtain ⟨h1, h2, h3⟩ := packV hr hv
  refine ⟨puts_snoc h.puts hv, by rw [List.length_append]; exact hf, ⟨_, h1⟩, h2, h3, ?_⟩
  obtain ⟨o', h4⟩ := fold_Fv ls (some v) h.puts
  have e : rowsF (some (packL rows)) (ls ++ [putOps v]) = applyF (ls.foldl applyF (applyF (fun _ => none) (packL rows))) (putOps v) := by unfold rowsF; rw [List.foldl_append]; rfl
  rw [e, h1, h4, Fv_put]
end
end Go.Proofs.YtmofcalcdjoicaaGreatDoor
