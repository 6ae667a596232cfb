/- What is proved: contracts and plain facts that the law leans on (texts put together). Conditions: as each names them. -/
import Derived.Test.YtlfhglcccmghlaaGreatDoorM12
import Derived.Shelf.SlIter.Nil
import Derived.Shelf.SortM.Plain
import Derived.Shelf.SortM.SortNone
import Derived.Test.YtlfhglcccmghlaaGreatDoorProg
set_option linter.unusedSimpArgs false
set_option linter.unusedVariables false
set_option linter.unusedSectionVars false
/-
  DERIVED: THE SHELF's CONTRACTS AT THIS DUMP, IN PLAIN WORDS (tools/lay-plain.mjs out of 'TryzShelf.lean', which tools/lay-shelf.mjs wrote): THE SAME DECLARATIONS UNDER THE SAME NAMES: 'import', 'namespace', 'open', 'def', 'theorem' AND NOTHING ELSE: no command of the shelf's: FOR A HAND-IN. Each laying: the table of numbers ('.._ren') and one theorem, a field a fact of the dump's own or the kernel's comparison; each contract: ONE APPLICATION.
-/
namespace Go.Proofs
open Go.Shelf
def Tryz.sortedL_ren : Go.Shelf.Ren := ⟨fun | 6 => 146 | 8 => 223 | 9 => 183 | 11 => 285 | 13 => 245 | 12 => 244 | 23 => 305 | 24 => 306 | 14 => 296 | 15 => 297 | 16 => 298 | 17 => 299 | 18 => 300 | 19 => 301 | 20 => 302 | 21 => 303 | 22 => 304 | 25 => 334 | 26 => 335 | 27 => 336 | 28 => 337 | 29 => 338 | 30 => 339 | 31 => 358 | n => n, fun | 26 => 9 | 28 => 232 | 24 => 29 | 0 => 0 | 3 => 3 | 37 => 277 | 48 => 321 | 50 => 274 | 4 => 4 | 40 => 389 | 39 => 388 | 45 => 122 | 5 => 5 | 9 => 9 | 51 => 420 | 55 => 119 | 57 => 447 | 58 => 448 | 33 => 125 | n => n, fun | n => n⟩
theorem Tryz.sortedL : Go.Proofs.SlLaysZ.n6 Tryz.prog Tryz.sortedL_ren := {
  mixed := by kernel_rfl
  f6 := ⟨Tryz.f146.name, by decide, Tryz.func146.trans (congrArg some (by kernel_rfl))⟩
  f8 := ⟨Tryz.f223.name, by decide, Tryz.func223.trans (congrArg some (by kernel_rfl))⟩
  f11 := ⟨Tryz.f285.name, by decide, Tryz.func285.trans (congrArg some (by kernel_rfl))⟩
  t0 := Tryz.underlying0
  a0 := Tryz.isAgg0
  z0 := Tryz.sizeOf0
  v0 := Tryz.zeroValue0
  t24 := Tryz.underlying29
  a24 := Tryz.isAgg29
  z24 := Tryz.sizeOf29
  v24 := Tryz.zeroValue29
  t26 := Tryz.underlying9
  a26 := Tryz.isAgg9
  z26 := Tryz.sizeOf9
  v26 := Tryz.zeroValue9
  t28 := Tryz.underlying232
  a28 := Tryz.isAgg232
  z28 := Tryz.sizeOf232
  v28 := Tryz.zeroValue232
  i26 := by kernel_rfl }
def Tryz.sortL_ren : Go.Shelf.Ren := ⟨fun | 6 => 183 | 8 => 245 | 9 => 244 | 19 => 305 | 20 => 306 | 21 => 296 | 22 => 297 | 23 => 298 | 24 => 299 | 25 => 300 | 26 => 301 | 27 => 302 | 28 => 303 | 29 => 304 | 36 => 334 | 31 => 335 | 32 => 336 | 37 => 337 | 38 => 338 | 39 => 339 | 41 => 358 | n => n, fun | 27 => 29 | 29 => 9 | 3 => 3 | 32 => 277 | 26 => 29 | 0 => 0 | 44 => 321 | 46 => 274 | 4 => 4 | 36 => 389 | 35 => 388 | 41 => 122 | 5 => 5 | 9 => 9 | 53 => 420 | 57 => 119 | 63 => 447 | 64 => 448 | n => n, fun | n => n⟩
theorem Tryz.sortL : Go.Proofs.SlLaysM.n6 Tryz.prog Tryz.sortL_ren := {
  mixed := by kernel_rfl
  f6 := ⟨Tryz.f183.name, by decide, Tryz.func183.trans (congrArg some (by kernel_rfl))⟩
  f8 := Tryz.func245.trans (congrArg some (by kernel_rfl))
  f9 := ⟨Tryz.f244.name, by decide, Tryz.func244.trans (congrArg some (by kernel_rfl))⟩
  f19 := Tryz.func305.trans (congrArg some (by kernel_rfl))
  f20 := Tryz.func306.trans (congrArg some (by kernel_rfl))
  f21 := ⟨Tryz.f296.name, by decide, Tryz.func296.trans (congrArg some (by kernel_rfl))⟩
  f22 := ⟨Tryz.f297.name, by decide, Tryz.func297.trans (congrArg some (by kernel_rfl))⟩
  f23 := ⟨Tryz.f298.name, by decide, Tryz.func298.trans (congrArg some (by kernel_rfl))⟩
  f24 := ⟨Tryz.f299.name, by decide, Tryz.func299.trans (congrArg some (by kernel_rfl))⟩
  f25 := ⟨Tryz.f300.name, by decide, Tryz.func300.trans (congrArg some (by kernel_rfl))⟩
  f26 := ⟨Tryz.f301.name, by decide, Tryz.func301.trans (congrArg some (by kernel_rfl))⟩
  f27 := ⟨Tryz.f302.name, by decide, Tryz.func302.trans (congrArg some (by kernel_rfl))⟩
  f28 := ⟨Tryz.f303.name, by decide, Tryz.func303.trans (congrArg some (by kernel_rfl))⟩
  f29 := ⟨Tryz.f304.name, by decide, Tryz.func304.trans (congrArg some (by kernel_rfl))⟩
  f31 := Tryz.func335.trans (congrArg some (by kernel_rfl))
  f32 := Tryz.func336.trans (congrArg some (by kernel_rfl))
  f36 := ⟨Tryz.f334.name, by decide, Tryz.func334.trans (congrArg some (by kernel_rfl))⟩
  f37 := ⟨Tryz.f337.name, by decide, Tryz.func337.trans (congrArg some (by kernel_rfl))⟩
  f38 := ⟨Tryz.f338.name, by decide, Tryz.func338.trans (congrArg some (by kernel_rfl))⟩
  f39 := ⟨Tryz.f339.name, by decide, Tryz.func339.trans (congrArg some (by kernel_rfl))⟩
  f41 := ⟨Tryz.f358.name, by decide, Tryz.func358.trans (congrArg some (by kernel_rfl))⟩
  t0 := Tryz.underlying0
  a0 := Tryz.isAgg0
  z0 := Tryz.sizeOf0
  v0 := Tryz.zeroValue0
  t3 := Tryz.underlying3
  a3 := Tryz.isAgg3
  z3 := Tryz.sizeOf3
  v3 := Tryz.zeroValue3
  t4 := Tryz.underlying4
  a4 := Tryz.isAgg4
  z4 := Tryz.sizeOf4
  v4 := Tryz.zeroValue4
  t5 := Tryz.underlying5
  a5 := Tryz.isAgg5
  z5 := Tryz.sizeOf5
  v5 := Tryz.zeroValue5
  t9 := Tryz.underlying9
  a9 := Tryz.isAgg9
  z9 := Tryz.sizeOf9
  v9 := Tryz.zeroValue9
  t26 := Tryz.underlying29
  a26 := Tryz.isAgg29
  z26 := Tryz.sizeOf29
  v26 := Tryz.zeroValue29
  t27 := Tryz.underlying29
  a27 := Tryz.isAgg29
  z27 := Tryz.sizeOf29
  v27 := Tryz.zeroValue29
  t29 := Tryz.underlying9
  a29 := Tryz.isAgg9
  z29 := Tryz.sizeOf9
  v29 := Tryz.zeroValue9
  t32 := Tryz.underlying277
  a32 := Tryz.isAgg277
  z32 := Tryz.sizeOf277
  v32 := Tryz.zeroValue277
  t35 := Tryz.underlying388
  a35 := Tryz.isAgg388
  z35 := Tryz.sizeOf388
  v35 := Tryz.zeroValue388
  t36 := Tryz.underlying389
  a36 := Tryz.isAgg389
  z36 := Tryz.sizeOf389
  v36 := Tryz.zeroValue389
  t41 := Tryz.underlying122
  a41 := Tryz.isAgg122
  z41 := Tryz.sizeOf122
  v41 := Tryz.zeroValue122
  t44 := Tryz.underlying321
  a44 := Tryz.isAgg321
  z44 := Tryz.sizeOf321
  v44 := Tryz.zeroValue321
  t46 := Tryz.underlying274
  a46 := Tryz.isAgg274
  z46 := Tryz.sizeOf274
  v46 := Tryz.zeroValue274
  t53 := Tryz.underlying420
  a53 := Tryz.isAgg420
  z53 := Tryz.sizeOf420
  v53 := Tryz.zeroValue420
  t57 := Tryz.underlying119
  a57 := Tryz.isAgg119
  z57 := Tryz.sizeOf119
  v57 := Tryz.zeroValue119
  t63 := Tryz.underlying447
  a63 := Tryz.isAgg447
  z63 := Tryz.sizeOf447
  v63 := Tryz.zeroValue447
  t64 := Tryz.underlying448
  a64 := Tryz.isAgg448
  z64 := Tryz.sizeOf448
  v64 := Tryz.zeroValue448 }
def Tryz.keysVL_ren : Go.Shelf.Ren := ⟨fun | 7 => 147 | 10 => 224 | n => n, fun | 23 => 142 | 26 => 9 | 3 => 171 | 28 => 232 | 0 => 0 | 27 => 231 | 33 => 125 | 4 => 4 | n => n, fun | n => n⟩
theorem Tryz.keysVL : Go.Proofs.SlLaysZ.n7 Tryz.prog Tryz.keysVL_ren := {
  mixed := by kernel_rfl
  f7 := ⟨Tryz.f147.name, by decide, Tryz.func147.trans (congrArg some (by kernel_rfl))⟩
  f10 := ⟨Tryz.f224.name, by decide, Tryz.func224.trans (congrArg some (by kernel_rfl))⟩
  t0 := Tryz.underlying0
  a0 := Tryz.isAgg0
  z0 := Tryz.sizeOf0
  v0 := Tryz.zeroValue0
  t4 := Tryz.underlying4
  a4 := Tryz.isAgg4
  z4 := Tryz.sizeOf4
  v4 := Tryz.zeroValue4
  t23 := Tryz.underlying142
  a23 := Tryz.isAgg142
  z23 := Tryz.sizeOf142
  v23 := Tryz.zeroValue142
  t26 := Tryz.underlying9
  a26 := Tryz.isAgg9
  z26 := Tryz.sizeOf9
  v26 := Tryz.zeroValue9
  t27 := Tryz.underlying231
  a27 := Tryz.isAgg231
  z27 := Tryz.sizeOf231
  v27 := Tryz.zeroValue231
  t28 := Tryz.underlying232
  a28 := Tryz.isAgg232
  z28 := Tryz.sizeOf232
  v28 := Tryz.zeroValue232
  t33 := Tryz.underlying125
  a33 := Tryz.isAgg125
  z33 := Tryz.sizeOf125
  v33 := Tryz.zeroValue125 }
def Tryz.keysNL_ren : Go.Shelf.Ren := ⟨fun | 7 => 157 | 10 => 228 | n => n, fun | 23 => 245 | 26 => 9 | 3 => 65 | 28 => 232 | 0 => 0 | 27 => 231 | 33 => 125 | 4 => 4 | n => n, fun | n => n⟩
theorem Tryz.keysNL : Go.Proofs.SlLaysZ.n7 Tryz.prog Tryz.keysNL_ren := {
  mixed := by kernel_rfl
  f7 := ⟨Tryz.f157.name, by decide, Tryz.func157.trans (congrArg some (by kernel_rfl))⟩
  f10 := ⟨Tryz.f228.name, by decide, Tryz.func228.trans (congrArg some (by kernel_rfl))⟩
  t0 := Tryz.underlying0
  a0 := Tryz.isAgg0
  z0 := Tryz.sizeOf0
  v0 := Tryz.zeroValue0
  t4 := Tryz.underlying4
  a4 := Tryz.isAgg4
  z4 := Tryz.sizeOf4
  v4 := Tryz.zeroValue4
  t23 := Tryz.underlying245
  a23 := Tryz.isAgg245
  z23 := Tryz.sizeOf245
  v23 := Tryz.zeroValue245
  t26 := Tryz.underlying9
  a26 := Tryz.isAgg9
  z26 := Tryz.sizeOf9
  v26 := Tryz.zeroValue9
  t27 := Tryz.underlying231
  a27 := Tryz.isAgg231
  z27 := Tryz.sizeOf231
  v27 := Tryz.zeroValue231
  t28 := Tryz.underlying232
  a28 := Tryz.isAgg232
  z28 := Tryz.sizeOf232
  v28 := Tryz.zeroValue232
  t33 := Tryz.underlying125
  a33 := Tryz.isAgg125
  z33 := Tryz.sizeOf125
  v33 := Tryz.zeroValue125 }
def Tryz.keysIL_ren : Go.Shelf.Ren := ⟨fun | 7 => 319 | 10 => 344 | n => n, fun | 23 => 60 | 26 => 9 | 3 => 3 | 28 => 232 | 0 => 0 | 27 => 231 | 33 => 125 | 4 => 4 | n => n, fun | n => n⟩
theorem Tryz.keysIL : Go.Proofs.SlLaysZ.n7 Tryz.prog Tryz.keysIL_ren := {
  mixed := by kernel_rfl
  f7 := ⟨Tryz.f319.name, by decide, Tryz.func319.trans (congrArg some (by kernel_rfl))⟩
  f10 := ⟨Tryz.f344.name, by decide, Tryz.func344.trans (congrArg some (by kernel_rfl))⟩
  t0 := Tryz.underlying0
  a0 := Tryz.isAgg0
  z0 := Tryz.sizeOf0
  v0 := Tryz.zeroValue0
  t4 := Tryz.underlying4
  a4 := Tryz.isAgg4
  z4 := Tryz.sizeOf4
  v4 := Tryz.zeroValue4
  t23 := Tryz.underlying60
  a23 := Tryz.isAgg60
  z23 := Tryz.sizeOf60
  v23 := Tryz.zeroValue60
  t26 := Tryz.underlying9
  a26 := Tryz.isAgg9
  z26 := Tryz.sizeOf9
  v26 := Tryz.zeroValue9
  t27 := Tryz.underlying231
  a27 := Tryz.isAgg231
  z27 := Tryz.sizeOf231
  v27 := Tryz.zeroValue231
  t28 := Tryz.underlying232
  a28 := Tryz.isAgg232
  z28 := Tryz.sizeOf232
  v28 := Tryz.zeroValue232
  t33 := Tryz.underlying125
  a33 := Tryz.isAgg125
  z33 := Tryz.sizeOf125
  v33 := Tryz.zeroValue125 }
end Go.Proofs

/- What is proved: a map of texts as the library's laws see it; the library's sort of texts. Conditions: bounded keys and number. -/
set_option linter.unusedSimpArgs false
set_option linter.unusedVariables false
namespace Go.Proofs.YtlfhglcccmghlaaGreatDoor
open Go Go.J Go.RowKit Go.Maps Go.Sort Go.Shelf

def anyR : Value → Option (DataW Unit × List MemPlace) := fun _ => some (.nil, [])
theorem own_of_map {P : Program} {k : TypeId} {b : Nat} {m : KV} {w : World} (hk : P.underlying k = some .string) (h : MapIs b m w) (hl : m.length ≤ maxLen) (hkl : ∀ p ∈ m, p.1.length ≤ maxLen) :
    ∃ D0 : DataW Unit, w.ownsMap P k anyR b m.length D0 ∧ (strKeys D0).Perm (m.map Prod.fst) ∧ Maps.size D0 = m.length := by
  obtain ⟨hnd, es, clock, hb, hkv, hbn, hbc⟩ := h
  have hlen : es.length = m.length := by have := congrArg List.length hkv; simpa [kvs, kvm] using this
  have hkeys : es.map (·.key) = m.map fun p => str p.1 := by
    have := congrArg (List.map Prod.fst) hkv
    simpa [kvs, kvm, List.map_map, Function.comp_def] using this
  have hrd : ∀ x ∈ es, ∃ s, x.key = str s ∧ WideElems.rd P k anyR x = some (.string s, .nil) := fun x hx => by
    have hm : x.key ∈ es.map (·.key) := List.mem_map_of_mem hx
    rw [hkeys] at hm
    obtain ⟨p, hp, he⟩ := List.mem_map.1 hm
    refine ⟨p.1, he.symm, ?_⟩
    unfold WideElems.rd
    rw [← he, WideMaps.keyOf_string_mk hk (show (⟨⟨p.1⟩⟩ : ByteArray).size ≤ maxLen from by rw [size_mk]; exact hkl p hp)]
    rfl
  refine ⟨.map ((es.map (WideElems.rg P k anyR)).foldr DataW.insert []), ⟨⟨es⟩, clock, hb, ⟨by simpa [hlen] using hl, ⟨by simpa using hbc, by simpa using hbn, ?_⟩, fun x hx => ?_⟩, by simp [hlen], rfl⟩, ?_, ?_⟩
  · simp only
    rw [hkeys]
    have : (m.map fun p => str p.1) = (m.map Prod.fst).map str := by simp [List.map_map, Function.comp_def]
    rw [this]
    refine List.Pairwise.map (S := fun a b => a ≠ b) str (fun a b h e => h ?_) hnd
    simpa [str] using e
  · obtain ⟨s, _, h2⟩ := hrd x (by simpa using hx)
    exact ⟨_, h2⟩
  · have hp : ((es.map (WideElems.rg P k anyR)).foldr DataW.insert []).Perm (es.map (WideElems.rg P k anyR)) := Go.WideShapes.sorted_perm _
    refine (hp.map fun p => strOf p.1).trans ?_
    rw [List.map_map]
    have e : es.map ((fun p => strOf p.1) ∘ WideElems.rg P k anyR) = m.map Prod.fst := by
      have h1 : (es.map fun x => x.key) = ((m.map Prod.fst).map str) := by rw [hkeys]; simp [List.map_map, Function.comp_def]
      have h2 : ∀ x ∈ es, str (((fun p => strOf p.1) ∘ WideElems.rg P k anyR) x) = x.key := fun x hx => by
        obtain ⟨s, h1, h2⟩ := hrd x hx
        simp only [Function.comp_def, WideElems.rg, h2, Option.getD_some, strOf, h1]
      have h3 : (es.map ((fun p => strOf p.1) ∘ WideElems.rg P k anyR)).map str = (m.map Prod.fst).map str := by
        rw [← h1, List.map_map]
        exact List.map_congr_left h2
      exact (List.map_inj_right (f := str) (fun a b h => by simpa [str] using h)).1 h3
    rw [e]
  · have hp : ((es.map (WideElems.rg P k anyR)).foldr DataW.insert []).Perm (es.map (WideElems.rg P k anyR)) := Go.WideShapes.sorted_perm _
    have := hp.length_eq
    rw [List.length_map] at this
    rw [← hlen, ← this]
    rfl

theorem sortsL (m : Nat) : AnyZ.SortsIn Tryz.prog Tryz.sortedL_ren Fence.wide m :=
  ⟨fun blk off cap ss W hH hblk hsz => callsIn_wide.2 (AnyM.slices_Sort_string Tryz.sortL blk off cap ss W hH hblk hsz),
   fun p cap W => callsIn_wide.2 (AnyM.slices_Sort_string_none Tryz.sortL p cap W)⟩
end Go.Proofs.YtlfhglcccmghlaaGreatDoor

/- What is proved: 'slices.Sort' of a row of texts that the caller owns. Conditions: bounded length. -/
set_option linter.unusedSimpArgs false
set_option linter.unusedVariables false
namespace Go.Proofs.YtlfhglcccmghlaaGreatDoor
open Go Go.J Go.RowKit Go.Maps Go.Sort Go.Shelf

theorem strs_enc (l : List (List UInt8)) : l.map encStr = strs l := by
  induction l with
  | nil => rfl
  | cons a l ih => simp only [List.map_cons, ih]; rfl
theorem RowAt.put {w : World} {e : TypeId} {g off n cap : Nat} {xs : List Value} (h : RowAt w e 1 (.slice (some ⟨g, off, none⟩) n cap) n xs) (ys : List (List UInt8)) (hy : ys.length = n) (k : Nat) (os : Array Obj) :
    RowAt (grow (putRow encStr (Sort.ahead w k) g off ys.toArray) os) e 1 (.slice (some ⟨g, off, none⟩) n cap) n (strs ys) ∧ Upd [g] w (grow (putRow encStr (Sort.ahead w k) g off ys.toArray) os) := by
  rcases h.2 with ⟨e0, _⟩ | ⟨g', off', cap', cur, e0, hg, hn, hm, hs, ht⟩
  · cases e0
  · simp only [Value.slice.injEq, Option.some.injEq, Addr.mk.injEq, true_and, and_true] at e0
    obtain ⟨⟨rfl, rfl⟩, rfl⟩ := e0
    have hlt : g < w.heap.size := (Array.getElem?_eq_some_iff.1 hg).1
    have hsz : (putRow encStr (Sort.ahead w k) g off ys.toArray).heap.size = w.heap.size := by rw [Go.Sort.size_putRow]; rfl
    have hput : (putRow encStr (Sort.ahead w k) g off ys.toArray).heap[g]? = some (.cells (putCells encStr off ys.toArray ⟨cur⟩) e (0, 0)) := by
      simp [putRow, mapBlock, Sort.ahead, Array.getElem?_modify, hg, onCells]
    have hgr : ∀ b, b < w.heap.size → (grow (putRow encStr (Sort.ahead w k) g off ys.toArray) os).heap[b]? = (putRow encStr (Sort.ahead w k) g off ys.toArray).heap[b]? := fun b hb => by
      show ((putRow encStr (Sort.ahead w k) g off ys.toArray).heap ++ os)[b]? = _
      rw [Array.getElem?_append_left (by rw [hsz]; exact hb)]
    refine ⟨⟨by rw [strs_len, hy, Nat.mul_one], .inr ⟨g, off, cap, (putCells encStr off ys.toArray ⟨cur⟩).toList, rfl, ?_, hn, hm, ?_, ?_⟩⟩, ⟨rfl, rfl, rfl, ?_, fun b hb hnb => ?_⟩⟩
    · rw [hgr g hlt, hput]
    · simpa [putCells] using hs
    · apply List.ext_getElem?
      intro j
      rw [List.getElem?_take, List.getElem?_drop, Array.getElem?_toList, ← strs_enc, List.getElem?_map]
      by_cases hj : j < n
      · have hjc : off + j < cur.length := by omega
        simp only [Nat.mul_one, if_pos hj, putCells, Array.getElem?_mapIdx]
        rw [show (Array.mk cur)[off + j]? = some cur[off + j] from by rw [show (Array.mk cur) = cur.toArray from rfl, List.getElem?_toArray]; exact List.getElem?_eq_getElem hjc]
        simp only [Option.map_some]
        rw [if_pos (by simp; omega), List.getElem?_eq_getElem (by omega)]
        simp [getElem!_pos, show j < ys.length by omega]
      · rw [if_neg (by omega), List.getElem?_eq_none (by omega)]
        rfl
    · show w.heap.size ≤ ((putRow encStr (Sort.ahead w k) g off ys.toArray).heap ++ os).size
      rw [Array.size_append, hsz]
      exact Nat.le_add_right _ _
    · rw [hgr b hb]
      have hne : ¬ g = b := fun e => hnb (by rw [← e]; exact List.mem_cons_self ..)
      simp [putRow, mapBlock, Sort.ahead, Array.getElem?_modify, hne]
theorem RowAt.holdsS {w : World} {e : TypeId} {g off n cap : Nat} {l : List (List UInt8)} (h : RowAt w e 1 (.slice (some ⟨g, off, none⟩) n cap) n (strs l)) (hl : l.length = n) : Holds encStr w g off l.toArray := by
  intro j hj
  have hj' : j < l.length := by simpa using hj
  rcases h.2 with ⟨e0, _⟩ | ⟨g', off', cap', cur, e0, hg, hn, hm, hs, ht⟩
  · cases e0
  · simp only [Value.slice.injEq, Option.some.injEq, Addr.mk.injEq, true_and, and_true] at e0
    obtain ⟨⟨rfl, rfl⟩, rfl⟩ := e0
    refine ⟨?_, by simp [World.frozen?, hg]⟩
    have hc := h.cells j (str l[j]) (by rw [strs_at hj'])
    rw [hc]
    simp [getElem!_pos, hj', encStr]
theorem sort_perm' {a b : List (List UInt8)} (h : a.Perm b) : a.mergeSort (fun x y => decide (x ≤ y)) = b.mergeSort (fun x y => decide (x ≤ y)) := mergeSort_of_perm h
/-- a row of texts sorted -/
theorem sort_c {A : Option Addr} {cap : Nat} {l : List (List UInt8)} {w0 : World} (hc : (Chunk.own (.slice A l.length cap) 9 1 l.length (strs l)).holds w0) (hi : inB (.own (.slice A l.length cap) 9 1 l.length (strs l)) w0) (hl : l.length ≤ 1099511627776) :
    Cal Tryz.prog 183 [.slice A l.length cap] w0 (fun v w' => v = .tuple #[] ∧ Mut w0 w' (.own (.slice A l.length cap) 9 1 l.length (strs l)) (.own (.slice A l.length cap) 9 1 l.length (strs (l.mergeSort (fun x y => decide (x ≤ y)))))) := by
  rcases l with _ | ⟨x, l⟩
  · exact ⟨by kernel_rfl, (AnyM.slices_Sort_string_none Tryz.sortL A cap w0).mono fun e w' ⟨h1, h2⟩ => ⟨_, h1, rfl, by rw [h2, List.mergeSort_nil]; exact ⟨.refl _ _, hc, fun b hb => .inl hb⟩⟩⟩
  · generalize hll : x :: l = ll at *
    have hpos : 0 < ll.length := by rw [← hll]; simp
    have hA : ∃ g off, A = some ⟨g, off, none⟩ := by
      rcases hc.2 with ⟨e0, hz⟩ | ⟨g, off, cap', cur, e0, _⟩
      · omega
      · simp only [Value.slice.injEq] at e0; exact ⟨g, off, e0.1⟩
    obtain ⟨g, off, rfl⟩ := hA
    have hg : g < w0.heap.size := hi g (by simp [Chunk.fp, Value.ownBlock])
    refine ⟨by kernel_rfl, (AnyM.slices_Sort_string Tryz.sortL g off cap ll w0 (RowAt.holdsS hc rfl) hg (by omega)).mono fun e w' ⟨h1, n, os, h2⟩ => ⟨_, h1, rfl, ?_⟩⟩
    subst h2
    have hlen : (ll.mergeSort (fun x y => decide (x ≤ y))).length = ll.length := (List.mergeSort_perm _ _).length_eq
    obtain ⟨r1, r2⟩ := RowAt.put hc (ll.mergeSort (fun x y => decide (x ≤ y))) hlen n os
    exact ⟨by simpa [Chunk.fp, Value.ownBlock] using r2, r1, fun b hb => .inl hb⟩
end Go.Proofs.YtlfhglcccmghlaaGreatDoor

/- What is proved: what the evaluator knows by heart of 'slices.Sorted(maps.Keys(m))'. Conditions: none. -/
set_option linter.unusedSimpArgs false
set_option linter.unusedVariables false
namespace Go.Proofs.YtlfhglcccmghlaaGreatDoor
open Go Go.J Go.RowKit Go.Maps Go.Sort Go.Shelf
def keysVT : TypeId := Tryz.keysVL_ren.t 23
theorem sortedV_c {x mb : Nat} {m : KV} {w : World} (hx : w.heap[x]? = some (.cells ⟨[.map (some mb)]⟩ keysVT (0, 0))) (hm : MapIs mb m w) (hl : m.length ≤ 1048576) (hkl : ∀ p ∈ m, p.1.length ≤ 1099511627776) :
    Cal Tryz.prog 146 [.func (.func 224) ⟨[]⟩ ⟨[.pointer (some ⟨x, 0, none⟩)]⟩] w fun v w' => Upd [] w w' ∧ ∃ A cap, v = .slice A m.length cap ∧
      New w w' (.own (.slice A m.length cap) 9 1 m.length (strs ((m.map Prod.fst).mergeSort (fun x y => decide (x ≤ y))))) := by
  have hmx : m.length ≤ maxLen := by unfold maxLen; omega
  obtain ⟨D0, hown, hperm, hsz⟩ := own_of_map Tryz.underlying9 hm hmx (fun p hp => by have := hkl p hp; unfold maxLen; omega)
  have hxl : x < w.heap.size := (Array.getElem?_eq_some_iff.1 hx).1
  have hseq : SeqGives Fence.wide 2 Tryz.prog 224 #[.pointer (some ⟨x, 0, none⟩)] encStr (fun ss => ss.Perm (strKeys D0)) (Maps.size D0) w :=
    AnyZ.keys_gives (ρ := Tryz.keysVL_ren) { Tryz.keysVL with } Fence.wide _ trivial rfl (by omega) x mb m.length D0 _ hxl (by rw [cell_of_row w x 0 _ _ _ hx]; rfl) hown
  have cS := AnyZ.sorted_in Tryz.sortedL Fence.wide 5 trivial trivial trivial trivial rfl (by omega) (sortsL _) (enters_of Tryz.func183 (by kernel_rfl) rfl) 224 #[.pointer (some ⟨x, 0, none⟩)] trivial (enters_of Tryz.func224 (by kernel_rfl) rfl) _ _ (by rw [hsz]; exact hmx) (by rw [hsz]; omega) _ hseq
  change CallsIn _ _ Tryz.prog 146 _ _ _ at cS
  refine ⟨by kernel_rfl, (callsIn_wide.1 cS).mono fun e w' ⟨v, ss, he, hS, hrow, hnil, hb⟩ => ⟨v, he, .of_below hb, ?_⟩⟩
  have hp : ss.Perm (m.map Prod.fst) := hS.trans hperm
  have hlen : ss.length = m.length := by rw [hp.length_eq, List.length_map]
  have hms : ss.mergeSort (fun x y => decide (x ≤ y)) = (m.map Prod.fst).mergeSort (fun x y => decide (x ≤ y)) := mergeSort_of_perm hp
  rw [hms, hlen] at hrow
  have hst : ((m.map Prod.fst).mergeSort (fun x y => decide (x ≤ y))).map encStr = strs ((m.map Prod.fst).mergeSort (fun x y => decide (x ≤ y))) := by
    generalize (m.map Prod.fst).mergeSort (fun x y => decide (x ≤ y)) = l
    induction l with
    | nil => rfl
    | cons a l ih => simp only [List.map_cons, ih]; rfl
  rw [hst] at hrow
  have hrow' := hrow
  rcases hrow.2 with ⟨rfl, hz⟩ | ⟨g, cap, cur, rfl, hg, hh, _⟩
  · refine ⟨none, 0, by rw [hz], ⟨?_, fun b hb => by simp [Chunk.fp, Value.ownBlock] at hb⟩⟩
    have := RowAt.of_owns hrow
    rwa [hz] at this ⊢
  · exact ⟨_, _, rfl, ⟨RowAt.of_owns hrow', fun b hb => by
      simp [Chunk.fp, Value.ownBlock] at hb
      subst hb
      exact ⟨hg, (Array.getElem?_eq_some_iff.1 hh).1⟩⟩⟩
def keysNT : TypeId := Tryz.keysNL_ren.t 23
theorem sortedN_c {x mb : Nat} {m : KV} {w : World} (hx : w.heap[x]? = some (.cells ⟨[.map (some mb)]⟩ keysNT (0, 0))) (hm : MapIs mb m w) (hl : m.length ≤ 1048576) (hkl : ∀ p ∈ m, p.1.length ≤ 1099511627776) :
    Cal Tryz.prog 146 [.func (.func 228) ⟨[]⟩ ⟨[.pointer (some ⟨x, 0, none⟩)]⟩] w fun v w' => Upd [] w w' ∧ ∃ A cap, v = .slice A m.length cap ∧
      New w w' (.own (.slice A m.length cap) 9 1 m.length (strs ((m.map Prod.fst).mergeSort (fun x y => decide (x ≤ y))))) := by
  have hmx : m.length ≤ maxLen := by unfold maxLen; omega
  obtain ⟨D0, hown, hperm, hsz⟩ := own_of_map Tryz.underlying9 hm hmx (fun p hp => by have := hkl p hp; unfold maxLen; omega)
  have hxl : x < w.heap.size := (Array.getElem?_eq_some_iff.1 hx).1
  have hseq : SeqGives Fence.wide 2 Tryz.prog 228 #[.pointer (some ⟨x, 0, none⟩)] encStr (fun ss => ss.Perm (strKeys D0)) (Maps.size D0) w :=
    AnyZ.keys_gives (ρ := Tryz.keysNL_ren) { Tryz.keysNL with } Fence.wide _ trivial rfl (by omega) x mb m.length D0 _ hxl (by rw [cell_of_row w x 0 _ _ _ hx]; rfl) hown
  have cS := AnyZ.sorted_in Tryz.sortedL Fence.wide 5 trivial trivial trivial trivial rfl (by omega) (sortsL _) (enters_of Tryz.func183 (by kernel_rfl) rfl) 228 #[.pointer (some ⟨x, 0, none⟩)] trivial (enters_of Tryz.func228 (by kernel_rfl) rfl) _ _ (by rw [hsz]; exact hmx) (by rw [hsz]; omega) _ hseq
  change CallsIn _ _ Tryz.prog 146 _ _ _ at cS
  refine ⟨by kernel_rfl, (callsIn_wide.1 cS).mono fun e w' ⟨v, ss, he, hS, hrow, hnil, hb⟩ => ⟨v, he, .of_below hb, ?_⟩⟩
  have hp : ss.Perm (m.map Prod.fst) := hS.trans hperm
  have hlen : ss.length = m.length := by rw [hp.length_eq, List.length_map]
  have hms : ss.mergeSort (fun x y => decide (x ≤ y)) = (m.map Prod.fst).mergeSort (fun x y => decide (x ≤ y)) := mergeSort_of_perm hp
  rw [hms, hlen] at hrow
  have hst : ((m.map Prod.fst).mergeSort (fun x y => decide (x ≤ y))).map encStr = strs ((m.map Prod.fst).mergeSort (fun x y => decide (x ≤ y))) := by
    generalize (m.map Prod.fst).mergeSort (fun x y => decide (x ≤ y)) = l
    induction l with
    | nil => rfl
    | cons a l ih => simp only [List.map_cons, ih]; rfl
  rw [hst] at hrow
  have hrow' := hrow
  rcases hrow.2 with ⟨rfl, hz⟩ | ⟨g, cap, cur, rfl, hg, hh, _⟩
  · refine ⟨none, 0, by rw [hz], ⟨?_, fun b hb => by simp [Chunk.fp, Value.ownBlock] at hb⟩⟩
    have := RowAt.of_owns hrow
    rwa [hz] at this ⊢
  · exact ⟨_, _, rfl, ⟨RowAt.of_owns hrow', fun b hb => by
      simp [Chunk.fp, Value.ownBlock] at hb
      subst hb
      exact ⟨hg, (Array.getElem?_eq_some_iff.1 hh).1⟩⟩⟩
def keysIT : TypeId := Tryz.keysIL_ren.t 23
theorem sortedI_c {x mb : Nat} {m : KV} {w : World} (hx : w.heap[x]? = some (.cells ⟨[.map (some mb)]⟩ keysIT (0, 0))) (hm : MapIs mb m w) (hl : m.length ≤ 1048576) (hkl : ∀ p ∈ m, p.1.length ≤ 1099511627776) :
    Cal Tryz.prog 146 [.func (.func 344) ⟨[]⟩ ⟨[.pointer (some ⟨x, 0, none⟩)]⟩] w fun v w' => Upd [] w w' ∧ ∃ A cap, v = .slice A m.length cap ∧
      New w w' (.own (.slice A m.length cap) 9 1 m.length (strs ((m.map Prod.fst).mergeSort (fun x y => decide (x ≤ y))))) := by
  have hmx : m.length ≤ maxLen := by unfold maxLen; omega
  obtain ⟨D0, hown, hperm, hsz⟩ := own_of_map Tryz.underlying9 hm hmx (fun p hp => by have := hkl p hp; unfold maxLen; omega)
  have hxl : x < w.heap.size := (Array.getElem?_eq_some_iff.1 hx).1
  have hseq : SeqGives Fence.wide 2 Tryz.prog 344 #[.pointer (some ⟨x, 0, none⟩)] encStr (fun ss => ss.Perm (strKeys D0)) (Maps.size D0) w :=
    AnyZ.keys_gives (ρ := Tryz.keysIL_ren) { Tryz.keysIL with } Fence.wide _ trivial rfl (by omega) x mb m.length D0 _ hxl (by rw [cell_of_row w x 0 _ _ _ hx]; rfl) hown
  have cS := AnyZ.sorted_in Tryz.sortedL Fence.wide 5 trivial trivial trivial trivial rfl (by omega) (sortsL _) (enters_of Tryz.func183 (by kernel_rfl) rfl) 344 #[.pointer (some ⟨x, 0, none⟩)] trivial (enters_of Tryz.func344 (by kernel_rfl) rfl) _ _ (by rw [hsz]; exact hmx) (by rw [hsz]; omega) _ hseq
  change CallsIn _ _ Tryz.prog 146 _ _ _ at cS
  refine ⟨by kernel_rfl, (callsIn_wide.1 cS).mono fun e w' ⟨v, ss, he, hS, hrow, hnil, hb⟩ => ⟨v, he, .of_below hb, ?_⟩⟩
  have hp : ss.Perm (m.map Prod.fst) := hS.trans hperm
  have hlen : ss.length = m.length := by rw [hp.length_eq, List.length_map]
  have hms : ss.mergeSort (fun x y => decide (x ≤ y)) = (m.map Prod.fst).mergeSort (fun x y => decide (x ≤ y)) := mergeSort_of_perm hp
  rw [hms, hlen] at hrow
  have hst : ((m.map Prod.fst).mergeSort (fun x y => decide (x ≤ y))).map encStr = strs ((m.map Prod.fst).mergeSort (fun x y => decide (x ≤ y))) := by
    generalize (m.map Prod.fst).mergeSort (fun x y => decide (x ≤ y)) = l
    induction l with
    | nil => rfl
    | cons a l ih => simp only [List.map_cons, ih]; rfl
  rw [hst] at hrow
  have hrow' := hrow
  rcases hrow.2 with ⟨rfl, hz⟩ | ⟨g, cap, cur, rfl, hg, hh, _⟩
  · refine ⟨none, 0, by rw [hz], ⟨?_, fun b hb => by simp [Chunk.fp, Value.ownBlock] at hb⟩⟩
    have := RowAt.of_owns hrow
    rwa [hz] at this ⊢
  · exact ⟨_, _, rfl, ⟨RowAt.of_owns hrow', fun b hb => by
      simp [Chunk.fp, Value.ownBlock] at hb
      subst hb
      exact ⟨hg, (Array.getElem?_eq_some_iff.1 hh).1⟩⟩⟩

def insI (x : List UInt8) : List (List UInt8) → List (List UInt8)
  | [] => [x]
  | y :: l => match decide (x ≤ y) with
    | true => x :: y :: l
    | false => y :: insI x l
def sortI : List (List UInt8) → List (List UInt8)
  | [] => []
  | x :: l => insI x (sortI l)
theorem insI_perm (x : List UInt8) : ∀ l, (insI x l).Perm (x :: l)
  | [] => .refl _
  | y :: l => by
    unfold insI
    split
    · exact .refl _
    · exact ((insI_perm x l).cons y).trans (.swap x y l)
theorem insI_srt (x : List UInt8) : ∀ {l : List (List UInt8)}, l.Pairwise (fun a b => decide (a ≤ b) = true) → (insI x l).Pairwise (fun a b => decide (a ≤ b) = true)
  | [], _ => by simp [insI]
  | y :: l, h => by
    unfold insI
    rw [List.pairwise_cons] at h
    split
    · rename_i hxy
      rw [List.pairwise_cons, List.pairwise_cons]
      refine ⟨fun z hz => ?_, h⟩
      rcases List.mem_cons.1 hz with rfl | hz
      · exact hxy
      · have := h.1 z hz
        simp only [decide_eq_true_eq] at hxy this ⊢
        exact List.le_trans hxy this
    · rename_i hxy
      rw [List.pairwise_cons]
      refine ⟨fun z hz => ?_, insI_srt x h.2⟩
      rcases List.mem_cons.1 ((insI_perm x l).mem_iff.1 hz) with rfl | hz
      · simp only [decide_eq_false_iff_not, decide_eq_true_eq] at hxy ⊢
        rcases List.le_total z y with hh | hh
        · exact absurd hh hxy
        · exact hh
      · exact h.1 z hz
theorem sortI_perm : ∀ l, (sortI l).Perm l
  | [] => .refl _
  | x :: l => (insI_perm x _).trans ((sortI_perm l).cons x)
theorem sortI_srt : ∀ l, (sortI l).Pairwise (fun a b => decide (a ≤ b) = true)
  | [] => .nil
  | x :: l => insI_srt x (sortI_srt l)
theorem sortI_eq (l : List (List UInt8)) : l.mergeSort (fun x y => decide (x ≤ y)) = sortI l := by
  have tr : ∀ a b c : List UInt8, decide (a ≤ b) = true → decide (b ≤ c) = true → decide (a ≤ c) = true := fun a b c h1 h2 => by simp only [decide_eq_true_eq] at *; exact List.le_trans h1 h2
  have tot : ∀ a b : List UInt8, (decide (a ≤ b) || decide (b ≤ a)) = true := fun a b => by simp only [Bool.or_eq_true, decide_eq_true_eq]; exact List.le_total a b
  refine List.Perm.eq_of_pairwise (le := fun a b => decide (a ≤ b) = true) (fun a b _ _ h1 h2 => ?_) (List.pairwise_mergeSort tr tot _) (sortI_srt l) ((List.mergeSort_perm _ _).trans (sortI_perm l).symm)
  simp only [decide_eq_true_eq] at h1 h2
  exact List.le_antisymm h1 h2
theorem mr_keys {ρ : En} {κ : Type} {m m' : List (κ × Value)} (h : Mr ρ m m') : m'.map Prod.fst = m.map Prod.fst := by
  induction h with
  | nil => rfl
  | cons _ _ ih => simp [ih]
theorem strsN (l : List (List UInt8)) : (strs l).length = l.length := by
  exact strs_len l
theorem strs_clo (l : List (List UInt8)) : ∀ v ∈ strs l, cloV v = true := by
  intro v hv
  unfold strs at hv
  obtain ⟨s, _, hs⟩ := List.mem_flatMap.1 hv
  simp at hs; subst hs; rfl
def kyTy (f : FuncId) : Option TypeId := match Nat.beq f 224 with
  | true => some keysVT
  | false => match Nat.beq f 228 with
    | true => some keysNT
    | false => match Nat.beq f 344 with
      | true => some keysIT
      | false => none
theorem ky_c {cf : FuncId} {ty : TypeId} (h : kyTy cf = some ty) {x mb : Nat} {m : KV} {w : World} (hx : w.heap[x]? = some (.cells ⟨[.map (some mb)]⟩ ty (0, 0))) (hm : MapIs mb m w) (hl : m.length ≤ 1048576) (hkl : ∀ p ∈ m, p.1.length ≤ 1099511627776) :
    Cal Tryz.prog 146 [.func (.func cf) ⟨[]⟩ ⟨[.pointer (some ⟨x, 0, none⟩)]⟩] w fun v w' => Upd [] w w' ∧ ∃ A cap, v = .slice A m.length cap ∧
      New w w' (.own (.slice A m.length cap) 9 1 m.length (strs ((m.map Prod.fst).mergeSort (fun x y => decide (x ≤ y))))) := by
  unfold kyTy at h
  split at h
  · rename_i e; have := Nat.eq_of_beq_eq_true e; subst this; cases h; exact sortedV_c hx hm hl hkl
  · split at h
    · rename_i e; have := Nat.eq_of_beq_eq_true e; subst this; cases h; exact sortedN_c hx hm hl hkl
    · split at h
      · rename_i e; have := Nat.eq_of_beq_eq_true e; subst this; cases h; exact sortedI_c hx hm hl hkl
      · cases h
def sortedB (H : AH) : List Value → Rs (Value × AH)
  | [.func (.func cf) ⟨[]⟩ ⟨[.pointer (some ⟨xb, o, none⟩)]⟩] => match Nat.beq o 0, kyTy cf, H.get xb with
    | true, some ty, some (.box ty' [.map (some mb)]) => match Nat.beq ty ty', H.get mb with
      | true, some (.mapS m) => match Nat.ble m.length 1048576 && m.all (fun p => Nat.ble p.1.length 1099511627776) with
        | true => .ok (rowRes H 9 (strs (sortI (m.map Prod.fst))))
        | false => .no []
      | _, _ => .no []
    | _, _, _ => .no []
  | _ => .no []
theorem sortedB_ok {H H' : AH} {args args' : List Value} {v : Value} {ρ : En} {w0 w : World} (h : sortedB H args = .ok (v, H')) (ha : Vrs ρ args args') (hR : Rl ρ H w0 w) :
    Cal Tryz.prog 146 args' w fun v' w' => ∃ ρ', ρ.le ρ' ∧ Vr ρ' v v' ∧ Rl ρ' H' w0 w' ∧ Frm ρ H w H' w' := by
  unfold sortedB at h
  split at h
  · rename_i cf xb o
    split at h
    · rename_i ty ty' mb ho hk hg
      split at h
      · rename_i m ht hm
        split at h
        · rename_i hb
          simp only [Bool.and_eq_true, List.all_eq_true] at hb
          have hl := Nat.le_of_ble_eq_true hb.1
          have := Nat.eq_of_beq_eq_true ho; subst this
          have := Nat.eq_of_beq_eq_true ht; subst this
          have hres : rowRes H 9 (strs (sortI (m.map Prod.fst))) = (v, H') := Rs.ok.inj h
          obtain ⟨v1, rfl, hv1⟩ : ∃ v1, args' = [v1] ∧ Vr ρ (.func (.func cf) ⟨[]⟩ ⟨[.pointer (some ⟨xb, 0, none⟩)]⟩) v1 := by
            cases ha with | cons h1 ha => cases ha; exact ⟨_, rfl, h1⟩
          obtain ⟨a', c', rfl, ha', hc'⟩ := hv1.func
          cases ha'
          obtain ⟨v2, rfl, hp⟩ : ∃ v2, c' = [v2] ∧ Vr ρ (.pointer (some ⟨xb, 0, none⟩)) v2 := by
            cases hc' with | cons h1 hc => cases hc; exact ⟨_, rfl, h1⟩
          obtain ⟨Lp, hLp, _, rfl⟩ := hp.ptrS
          obtain ⟨_, s1, s2, cs', r1, r2⟩ := hR.at hg hLp
          obtain ⟨v3, rfl, hmv⟩ : ∃ v3, cs' = [v3] ∧ Vr ρ (.map (some mb)) v3 := by
            cases r1 with | cons h1 hc => cases hc; exact ⟨_, rfl, h1⟩
          obtain ⟨Lm, hLm, rfl⟩ := hmv.mapS
          obtain ⟨_, m', q1, q2⟩ := hR.at hm hLm
          have hkeys := mr_keys q1
          have hlen : m'.length = m.length := by have := congrArg List.length hkeys; simpa using this
          have hcal := ky_c (w := w) hk r2 q2 (by omega) (fun p hp => by
            have : p.1 ∈ m'.map Prod.fst := List.mem_map_of_mem hp
            rw [hkeys] at this
            obtain ⟨p2, hp2, e2⟩ := List.mem_map.1 this
            rw [← e2]
            exact Nat.le_of_ble_eq_true (hb.2 p2 hp2))
          show Cal _ _ [.func (.func cf) ⟨[]⟩ ⟨[.pointer (some ⟨Lp.blk, Lp.sh + 0, none⟩)]⟩] _ _
          have hz : Lp.sh + 0 = 0 := by omega
          rw [hz]
          refine hcal.mono fun v' w' ⟨hu, A, cap, ev, hnew⟩ => ?_
          subst ev
          rw [hkeys, sortI_eq] at hnew
          have hl2 : m'.length = (strs (sortI (m.map Prod.fst))).length := by rw [strsN, (sortI_perm _).length_eq, List.length_map, hlen]
          obtain ⟨hR', hF'⟩ := hR.upd0 hu
          rw [hl2] at hnew ⊢
          obtain ⟨ρ', g1, g2, g3, g4⟩ := rowRes_ok (n := w.heap.size) hR' (fun c o L e hL => by
            obtain ⟨L', k1, _, k3, _⟩ := hR.ob c o e
            rw [k1] at hL; cases hL; exact k3) hR.upd.size (strs_clo _) hnew.holds hnew.fp
          rw [hres] at g2 g3 g4
          exact ⟨ρ', g1, g2, g3, .trans hR (.refl _) hF' g4⟩
        · cases h
      · cases h
    · cases h
  · cases h
theorem sortedB_wr {H H' : AH} {args : List Value} {v : Value} (h : sortedB H args = .ok (v, H')) : ∀ b ∈ H.wr, b ∈ H'.wr := by
  unfold sortedB at h
  repeat' split at h
  all_goals first
    | (cases h; done)
    | (have e := congrArg Prod.snd (Rs.ok.inj h)
       simp only at e
       rw [← e]; exact rowRes_wr)
end Go.Proofs.YtlfhglcccmghlaaGreatDoor

/- What is proved: what the functions that list a disk's folder do, over any content. Conditions: bounded lengths. -/
set_option linter.unusedSimpArgs false
set_option linter.unusedVariables false
namespace Go.Proofs.YtlfhglcccmghlaaGreatDoor
open Go Go.J Go.RowKit
def parG (p k : List UInt8) : Bool := decide (parentE k = p)
def sortS (l : List (List UInt8)) : List (List UInt8) := l.mergeSort (fun x y => decide (x ≤ y))
theorem sortS_len (l : List (List UInt8)) : (sortS l).length = l.length := (List.mergeSort_perm _ _).length_eq
def listG (m : KV) (p : List UInt8) : List (List UInt8) := sortS ((m.map Prod.fst).filter (parG p))
set_option maxHeartbeats 16000000 in
set_option maxRecDepth 100000 in
theorem dlistG_c {q mb : Nat} {c1 c2 c3 c4 c5 : Value} {m : KV} (p : List UInt8) {w0 : World} (hi : InL w0 [.box q 62 [.map (some mb), c1, c2, c3, c4, c5], mapC mb m]) (hn : m.length ≤ 1048576) (hkk : ∀ x ∈ m, x.1.length ≤ 1099511627) :
    Cal Tryz.prog 120 [.pointer (some ⟨q, 0, none⟩), str p] w0 (fun v w' => ∃ A cap, v = .slice A (listG m p).length cap ∧ MutL w0 w' [.box q 62 [.map (some mb), c1, c2, c3, c4, c5], mapC mb m] [.box q 62 [.map (some mb), c1, c2, c3, c4, c5], mapC mb m, .own (.slice A (listG m p).length cap) 9 1 (listG m p).length (strs (listG m p))]) := by
  refine Cal.mkL hi (by kernel_rfl) Tryz.func120 rfl rfl fun hS => ?_
  have hLs : listG m p = sortS ((m.map Prod.fst).filter (parG p)) := rfl
  repeat' (first
    | (show WL _ _ _ _ _ _ _; first
      | refine WL.pure rfl rfl rfl rfl ?_
      | refine WL.nil ?_
      | refine WL.load hS rfl rfl (LdOk.box (by repeat (first | exact List.Mem.head _ | apply List.Mem.tail)) rfl) rfl rfl rfl ?_
      | refine WL.add rfl rfl rfl (by omega) rfl rfl rfl ?_
      | refine WL.sub rfl rfl rfl (by omega) rfl rfl rfl ?_
      | (refine WL.slit (t := 29) hS rfl rfl rfl rfl rfl ?_; intro w ob hS; have hS := hS.boxRow (n := 0) (size := 1) .here rfl (Nat.zero_le _))
      | (refine WL.mrange hS rfl rfl rfl (fun r => by repeat (first | exact Repl.here | apply Repl.there)) rfl rfl rfl ?_; intro w r hS)
      | refine WL.conv64 rfl rfl rfl (by omega) rfl rfl rfl ?_
      | refine WL.cat rfl rfl rfl (by omega) rfl rfl rfl ?_
      | refine WL.idxS rfl rfl rfl rfl (by with_reducible assumption) rfl rfl rfl ?_
      | refine WL.lowS rfl rfl rfl rfl (by omega) rfl rfl rfl ?_
      | refine WL.highS rfl rfl rfl rfl (by omega) rfl rfl rfl ?_
      | refine WL.midS rfl rfl rfl rfl rfl (by omega) (by omega) rfl rfl rfl ?_
      | refine WL.maxI rfl rfl rfl rfl rfl rfl ?_
      | refine WL.minI rfl rfl rfl rfl rfl rfl ?_
      | (refine WL.store hS rfl rfl rfl (by repeat (first | exact StB.here rfl | apply StB.there)) rfl rfl rfl ?_; intro w hS)
      | (refine WL.box hS rfl rfl rfl rfl rfl ?_; intro w b hS)
      | (refine WL.alloc hS rfl rfl rfl rfl rfl rfl ?_; intro w b hS)
      | refine WL.index rfl rfl rfl rfl (by first | with_reducible assumption | omega) rfl rfl rfl rfl ?_
      | refine WL.index (j := 0) rfl rfl rfl rfl (by omega) rfl rfl rfl rfl ?_
      | refine WL.indexArr rfl rfl rfl rfl (by decide) rfl rfl rfl ?_
      | refine WL.skip rfl rfl rfl ?_
      | refine WL.build rfl rfl rfl rfl rfl ?_
      | (refine WL.slit hS rfl rfl rfl rfl rfl ?_; intro w b hS)
      | refine WL.eqS rfl rfl rfl rfl (by kernel_rfl) rfl rfl rfl ?_
      | refine WL.neS rfl rfl rfl rfl (by kernel_rfl) rfl rfl rfl ?_
      | ((fail_if_success (refine WL.wanted rfl ?_)); refine WL.guard rfl rfl rfl (fun h => ?_) (fun h => ?_) <;> (try simp only [Classical.not_not, Bool.not_eq_true', Bool.not_eq_false', Bool.not_eq_eq_eq_not, Bool.not_true, Bool.not_false, beq_iff_eq, beq_eq_false_iff_ne, ne_eq, decide_eq_decide, decide_eq_true_eq, decide_eq_false_iff_not, Bool.and_eq_true, Bool.or_eq_true, Bool.and_eq_false_iff, Bool.or_eq_false_iff] at h) <;> (try (exfalso; first | omega | contradiction))))
    | (show WC _ _ _ _ _ _; first
      | refine WC.seq ?_
      | refine WC.region ?_
      | refine WC.block ?_
      | refine WC.skip ?_
      | refine WC.exit ?_
      | refine WC.ret ?_
      | refine WC.condT rfl (by with_reducible rfl) ?_
      | refine WC.condF rfl (by with_reducible rfl) ?_
      | refine WC.condT rfl (by decide) ?_
      | refine WC.condF rfl (by decide) ?_
      | refine WC.condT rfl (decide_eq_true (by first | with_reducible assumption | omega)) ?_
      | refine WC.condF rfl (decide_eq_false (by first | with_reducible assumption | omega)) ?_
      | refine WC.condT rfl (by first | (simp; done) | (simp; omega)) ?_
      | refine WC.condF rfl (by first | (simp; done) | (simp; omega)) ?_
      | (refine WC.cond rfl (fun h => ?_) (fun h => ?_) <;> (try simp only [Classical.not_not, Bool.not_eq_true', Bool.not_eq_false', Bool.not_eq_eq_eq_not, Bool.not_true, Bool.not_false, beq_iff_eq, beq_eq_false_iff_ne, ne_eq, decide_eq_decide, decide_eq_true_eq, decide_eq_false_iff_not, Bool.and_eq_true, Bool.or_eq_true, Bool.and_eq_false_iff, Bool.or_eq_false_iff] at h) <;> (try (exfalso; first | omega | contradiction))))
    | (show WD _ _ _ _ _ _ _ _ _; first
      | refine WD.pure rfl rfl rfl rfl rfl ?_
      | refine WD.nil ?_
      | refine WD.load rfl rfl (LdOk.box (by repeat (first | exact List.Mem.head _ | apply List.Mem.tail)) rfl) rfl rfl rfl rfl ?_
      | refine WD.add rfl rfl rfl (by omega) rfl rfl rfl rfl ?_
      | refine WD.sub rfl rfl rfl (by omega) rfl rfl rfl rfl ?_
      | refine WD.conv64 rfl rfl rfl (by omega) rfl rfl rfl rfl ?_
      | refine WD.index rfl rfl rfl rfl (by first | with_reducible assumption | omega) rfl rfl rfl rfl rfl ?_
      | refine WD.index (j := 0) rfl rfl rfl rfl (by omega) rfl rfl rfl rfl rfl ?_
      | refine WD.indexArr rfl rfl rfl rfl (by decide) rfl rfl rfl rfl ?_
      | refine WD.pass rfl rfl rfl rfl ?_
      | refine WD.skip rfl rfl rfl rfl rfl (hM.ss hS) ?_
      | refine WD.build rfl rfl rfl rfl rfl rfl ?_
      | (refine WD.slit hS hM rfl rfl rfl rfl rfl rfl rfl ?_; intro w b hS hM)
      | refine WD.eqS rfl rfl rfl rfl (by kernel_rfl) rfl rfl rfl rfl ?_
      | refine WD.neS rfl rfl rfl rfl (by kernel_rfl) rfl rfl rfl rfl ?_
      | (refine WD.box hS hM rfl rfl rfl rfl rfl rfl rfl ?_; intro w b hS hM)
      | ((fail_if_success (refine WD.wanted rfl ?_)); refine WD.guard rfl rfl rfl (fun h => ?_) (fun h => ?_) <;> (try simp only [Classical.not_not, Bool.not_eq_true', Bool.not_eq_false', Bool.not_eq_eq_eq_not, Bool.not_true, Bool.not_false, beq_iff_eq, beq_eq_false_iff_ne, ne_eq, decide_eq_decide, decide_eq_true_eq, decide_eq_false_iff_not, Bool.and_eq_true, Bool.or_eq_true, Bool.and_eq_false_iff, Bool.or_eq_false_iff] at h) <;> (try (exfalso; first | omega | contradiction))))
    | refine seqQ_n ?_
    | refine blkQ_n ?_
    | refine seqQ_x ?_
    | refine seqQ_r ?_
    | refine blkQ_r ?_
    | refine blkQ_hit rfl ?_
    | refine blkQ_miss rfl ?_
    | refine rndQ_x ?_
    | refine rndQ_r ?_
    | refine rdQ_n ?_
    | refine rdQ_x ?_
    | refine rdQ_r ?_
    | refine cutQ_n ?_
    | refine cutQ_r ?_
    | refine cutQ_miss rfl ?_
    | refine endQ_x ?_
    | refine endQ_r ?_)
  replace hS := hS.droplast2 (D := [.own (.slice (some ⟨ob, 0, none⟩) 0 0) 9 1 0 [], rngC mb r m m none, .box q 62 [.map (some mb), c1, c2, c3, c4, c5]]) (by repeat (first | exact Pulls.nil | (apply Pulls.cons; focus (repeat (first | exact Pull.here | apply Pull.there)))))
  refine WC.loop (σ := List (List UInt8) × KV × Option (List UInt8 × Value) × Option Addr × Nat) [1, 15] (fun (d, left, cur, A, cap) => [(5, .slice A d.length cap)])
    (fun (d, left, cur, A, cap) w => (d ++ (left.map Prod.fst).filter (parG p)).Perm ((m.map Prod.fst).filter (parG p)) ∧ d.length + left.length ≤ m.length ∧ (∀ x ∈ left, x.1.length ≤ 1099511627) ∧ St w0 (fps [.box q 62 [.map (some mb), c1, c2, c3, c4, c5], mapC mb m]) w [.own (.slice A d.length cap) 9 1 d.length (strs d), rngC mb r m left cur, .box q 62 [.map (some mb), c1, c2, c3, c4, c5]] (ZL w0 [.box q 62 [.map (some mb), c1, c2, c3, c4, c5], mapC mb m]))
    (fun (d, left, cur, A, cap) => left.length) ([], m, none, some ⟨ob, 0, none⟩, 0) ⟨.refl _, by simp, hkk, hS⟩ ⟨rfl, trivial⟩ ?_
  clear hS
  rintro ⟨d, left, cur, A, cap⟩ g w ⟨hpm, hdl, hlk, hS⟩
  show WC _ _ _ (lf _ [(5, .slice A d.length cap)] _ _) _ _
  rcases left with _ | ⟨x, left⟩
  · rw [List.map_nil, List.filter_nil, List.append_nil] at hpm
    have hsl : sortS d = listG m p := by rw [hLs]; exact sort_perm' hpm
    have hsn : d.length = (listG m p).length := by rw [← hsl, sortS_len]
    simp only [List.length_nil, Nat.add_zero] at hdl
    clear hLs
    repeat' (first
      | (show WL _ _ _ _ _ _ _; first
        | refine WL.pure rfl rfl rfl rfl ?_
        | refine WL.nil ?_
        | refine WL.load hS rfl rfl (LdOk.box (by repeat (first | exact List.Mem.head _ | apply List.Mem.tail)) rfl) rfl rfl rfl ?_
        | refine WL.add rfl rfl rfl (by omega) rfl rfl rfl ?_
        | refine WL.sub rfl rfl rfl (by omega) rfl rfl rfl ?_
        | (refine WL.mnext hS rfl rfl (fun l' p => by repeat (first | exact Repl.here | apply Repl.there)) rfl rfl rfl (fun _ => ?_) (fun l1 k v l2 h => absurd h (by simp)))
        | (refine WL.callL (D := [.own (.slice A d.length cap) 9 1 d.length (strs d)]) hS (by repeat (first | exact Pulls.nil | (apply Pulls.cons; focus (repeat (first | exact Pull.here | apply Pull.there))))) rfl rfl (fun hI => sort_c hI.head hI.headB (by omega)) rfl rfl rfl ?_; rintro v w ⟨rfl, hm⟩ hS; replace hS := hS _ (.of1 hm); clear hm)
        | refine WL.conv64 rfl rfl rfl (by omega) rfl rfl rfl ?_
        | refine WL.cat rfl rfl rfl (by omega) rfl rfl rfl ?_
        | refine WL.idxS rfl rfl rfl rfl (by with_reducible assumption) rfl rfl rfl ?_
        | refine WL.lowS rfl rfl rfl rfl (by omega) rfl rfl rfl ?_
        | refine WL.highS rfl rfl rfl rfl (by omega) rfl rfl rfl ?_
        | refine WL.midS rfl rfl rfl rfl rfl (by omega) (by omega) rfl rfl rfl ?_
        | refine WL.maxI rfl rfl rfl rfl rfl rfl ?_
        | refine WL.minI rfl rfl rfl rfl rfl rfl ?_
        | (refine WL.store hS rfl rfl rfl (by repeat (first | exact StB.here rfl | apply StB.there)) rfl rfl rfl ?_; intro w hS)
        | (refine WL.box hS rfl rfl rfl rfl rfl ?_; intro w b hS)
        | (refine WL.alloc hS rfl rfl rfl rfl rfl rfl ?_; intro w b hS)
        | refine WL.index rfl rfl rfl rfl (by first | with_reducible assumption | omega) rfl rfl rfl rfl ?_
        | refine WL.index (j := 0) rfl rfl rfl rfl (by omega) rfl rfl rfl rfl ?_
        | refine WL.indexArr rfl rfl rfl rfl (by decide) rfl rfl rfl ?_
        | refine WL.skip rfl rfl rfl ?_
        | refine WL.build rfl rfl rfl rfl rfl ?_
        | (refine WL.slit hS rfl rfl rfl rfl rfl ?_; intro w b hS)
        | refine WL.eqS rfl rfl rfl rfl (by kernel_rfl) rfl rfl rfl ?_
        | refine WL.neS rfl rfl rfl rfl (by kernel_rfl) rfl rfl rfl ?_
        | ((fail_if_success (refine WL.wanted rfl ?_)); refine WL.guard rfl rfl rfl (fun h => ?_) (fun h => ?_) <;> (try simp only [Classical.not_not, Bool.not_eq_true', Bool.not_eq_false', Bool.not_eq_eq_eq_not, Bool.not_true, Bool.not_false, beq_iff_eq, beq_eq_false_iff_ne, ne_eq, decide_eq_decide, decide_eq_true_eq, decide_eq_false_iff_not, Bool.and_eq_true, Bool.or_eq_true, Bool.and_eq_false_iff, Bool.or_eq_false_iff] at h) <;> (try (exfalso; first | omega | contradiction))))
      | (show WC _ _ _ _ _ _; first
        | refine WC.seq ?_
        | refine WC.region ?_
        | refine WC.block ?_
        | refine WC.skip ?_
        | refine WC.exit ?_
        | refine WC.ret ?_
        | refine WC.condT rfl (by with_reducible rfl) ?_
        | refine WC.condF rfl (by with_reducible rfl) ?_
        | refine WC.condT rfl (by decide) ?_
        | refine WC.condF rfl (by decide) ?_
        | refine WC.condT rfl (decide_eq_true (by first | with_reducible assumption | omega)) ?_
        | refine WC.condF rfl (decide_eq_false (by first | with_reducible assumption | omega)) ?_
        | refine WC.condT rfl (by first | (simp; done) | (simp; omega)) ?_
        | refine WC.condF rfl (by first | (simp; done) | (simp; omega)) ?_
        | (refine WC.cond rfl (fun h => ?_) (fun h => ?_) <;> (try simp only [Classical.not_not, Bool.not_eq_true', Bool.not_eq_false', Bool.not_eq_eq_eq_not, Bool.not_true, Bool.not_false, beq_iff_eq, beq_eq_false_iff_ne, ne_eq, decide_eq_decide, decide_eq_true_eq, decide_eq_false_iff_not, Bool.and_eq_true, Bool.or_eq_true, Bool.and_eq_false_iff, Bool.or_eq_false_iff] at h) <;> (try (exfalso; first | omega | contradiction))))
      | (show WD _ _ _ _ _ _ _ _ _; first
        | refine WD.pure rfl rfl rfl rfl rfl ?_
        | refine WD.nil ?_
        | refine WD.load rfl rfl (LdOk.box (by repeat (first | exact List.Mem.head _ | apply List.Mem.tail)) rfl) rfl rfl rfl rfl ?_
        | refine WD.add rfl rfl rfl (by omega) rfl rfl rfl rfl ?_
        | refine WD.sub rfl rfl rfl (by omega) rfl rfl rfl rfl ?_
        | refine WD.conv64 rfl rfl rfl (by omega) rfl rfl rfl rfl ?_
        | refine WD.index rfl rfl rfl rfl (by first | with_reducible assumption | omega) rfl rfl rfl rfl rfl ?_
        | refine WD.index (j := 0) rfl rfl rfl rfl (by omega) rfl rfl rfl rfl rfl ?_
        | refine WD.indexArr rfl rfl rfl rfl (by decide) rfl rfl rfl rfl ?_
        | refine WD.pass rfl rfl rfl rfl ?_
        | refine WD.skip rfl rfl rfl rfl rfl (hM.ss hS) ?_
        | refine WD.build rfl rfl rfl rfl rfl rfl ?_
        | (refine WD.slit hS hM rfl rfl rfl rfl rfl rfl rfl ?_; intro w b hS hM)
        | refine WD.eqS rfl rfl rfl rfl (by kernel_rfl) rfl rfl rfl rfl ?_
        | refine WD.neS rfl rfl rfl rfl (by kernel_rfl) rfl rfl rfl rfl ?_
        | (refine WD.box hS hM rfl rfl rfl rfl rfl rfl rfl ?_; intro w b hS hM)
        | ((fail_if_success (refine WD.wanted rfl ?_)); refine WD.guard rfl rfl rfl (fun h => ?_) (fun h => ?_) <;> (try simp only [Classical.not_not, Bool.not_eq_true', Bool.not_eq_false', Bool.not_eq_eq_eq_not, Bool.not_true, Bool.not_false, beq_iff_eq, beq_eq_false_iff_ne, ne_eq, decide_eq_decide, decide_eq_true_eq, decide_eq_false_iff_not, Bool.and_eq_true, Bool.or_eq_true, Bool.and_eq_false_iff, Bool.or_eq_false_iff] at h) <;> (try (exfalso; first | omega | contradiction))))
      | refine seqQ_n ?_
      | refine blkQ_n ?_
      | refine seqQ_x ?_
      | refine seqQ_r ?_
      | refine blkQ_r ?_
      | refine blkQ_hit rfl ?_
      | refine blkQ_miss rfl ?_
      | refine rndQ_x ?_
      | refine rndQ_r ?_
      | refine rdQ_n ?_
      | refine rdQ_x ?_
      | refine rdQ_r ?_
      | refine cutQ_n ?_
      | refine cutQ_r ?_
      | refine cutQ_miss rfl ?_
      | refine endQ_x ?_
      | refine endQ_r ?_)
    have hS := hS.rngEnd (H' := [.own (.slice A d.length cap) 9 1 d.length (strs (sortS d)), mapC mb m, .box q 62 [.map (some mb), c1, c2, c3, c4, c5]]) (by repeat (first | exact Repl.here | apply Repl.there))
    rw [hsl, hsn] at hS
    exact fin1r rfl rfl ⟨A, cap, by rw [hsn], hS.mutLp (by repeat (first | exact Pulls.nil | (apply Pulls.cons; focus (repeat (first | exact Pull.here | apply Pull.there)))))⟩
  · have hcap := (hS.own_len (List.Mem.head _)).2.2
    repeat' (first
      | (show WL _ _ _ _ _ _ _; first
        | refine WL.pure rfl rfl rfl rfl ?_
        | refine WL.nil ?_
        | refine WL.load hS rfl rfl (LdOk.box (by repeat (first | exact List.Mem.head _ | apply List.Mem.tail)) rfl) rfl rfl rfl ?_
        | refine WL.add rfl rfl rfl (by omega) rfl rfl rfl ?_
        | refine WL.sub rfl rfl rfl (by omega) rfl rfl rfl ?_
        | (refine WL.mnext hS rfl rfl (fun l' p => by repeat (first | exact Repl.here | apply Repl.there)) rfl rfl rfl (fun h => absurd h (by simp)) (fun l1 k v l2 hleft w hS => ?_); have hkl : k.length ≤ 1099511627 := hlk (k, v) (by rw [hleft]; simp))
        | (refine WL.mentry hS rfl rfl (by repeat (first | exact List.Mem.head _ | apply List.Mem.tail)) rfl rfl rfl ?_)
        | (refine WL.calls hS rfl rfl (pparent_c k _ (by omega)) rfl rfl rfl ?_; rintro v w rfl hS)
        | (refine WL.app hS rfl rfl rfl rfl (RdOk.box (by repeat (first | exact List.Mem.head _ | apply List.Mem.tail))) rfl rfl (fun A cap => by repeat (first | exact Repl.here | apply Repl.there)) (by omega) rfl rfl rfl ?_; intro A3 cap3 w hS)
        | refine WL.conv64 rfl rfl rfl (by omega) rfl rfl rfl ?_
        | refine WL.cat rfl rfl rfl (by omega) rfl rfl rfl ?_
        | refine WL.idxS rfl rfl rfl rfl (by with_reducible assumption) rfl rfl rfl ?_
        | refine WL.lowS rfl rfl rfl rfl (by omega) rfl rfl rfl ?_
        | refine WL.highS rfl rfl rfl rfl (by omega) rfl rfl rfl ?_
        | refine WL.midS rfl rfl rfl rfl rfl (by omega) (by omega) rfl rfl rfl ?_
        | refine WL.maxI rfl rfl rfl rfl rfl rfl ?_
        | refine WL.minI rfl rfl rfl rfl rfl rfl ?_
        | (refine WL.store hS rfl rfl rfl (by repeat (first | exact StB.here rfl | apply StB.there)) rfl rfl rfl ?_; intro w hS)
        | (refine WL.box hS rfl rfl rfl rfl rfl ?_; intro w b hS)
        | (refine WL.alloc hS rfl rfl rfl rfl rfl rfl ?_; intro w b hS)
        | refine WL.index rfl rfl rfl rfl (by first | with_reducible assumption | omega) rfl rfl rfl rfl ?_
        | refine WL.index (j := 0) rfl rfl rfl rfl (by omega) rfl rfl rfl rfl ?_
        | refine WL.indexArr rfl rfl rfl rfl (by decide) rfl rfl rfl ?_
        | refine WL.skip rfl rfl rfl ?_
        | refine WL.build rfl rfl rfl rfl rfl ?_
        | (refine WL.slit hS rfl rfl rfl rfl rfl ?_; intro w b hS)
        | refine WL.eqS rfl rfl rfl rfl (by kernel_rfl) rfl rfl rfl ?_
        | refine WL.neS rfl rfl rfl rfl (by kernel_rfl) rfl rfl rfl ?_
        | ((fail_if_success (refine WL.wanted rfl ?_)); refine WL.guard rfl rfl rfl (fun h => ?_) (fun h => ?_) <;> (try simp only [Classical.not_not, Bool.not_eq_true', Bool.not_eq_false', Bool.not_eq_eq_eq_not, Bool.not_true, Bool.not_false, beq_iff_eq, beq_eq_false_iff_ne, ne_eq, decide_eq_decide, decide_eq_true_eq, decide_eq_false_iff_not, Bool.and_eq_true, Bool.or_eq_true, Bool.and_eq_false_iff, Bool.or_eq_false_iff] at h) <;> (try (exfalso; first | omega | contradiction))))
      | (show WC _ _ _ _ _ _; first
        | refine WC.seq ?_
        | refine WC.region ?_
        | refine WC.block ?_
        | refine WC.skip ?_
        | refine WC.exit ?_
        | refine WC.ret ?_
        | refine WC.condT rfl (by with_reducible rfl) ?_
        | refine WC.condF rfl (by with_reducible rfl) ?_
        | refine WC.condT rfl (by decide) ?_
        | refine WC.condF rfl (by decide) ?_
        | refine WC.condT rfl (decide_eq_true (by first | with_reducible assumption | omega)) ?_
        | refine WC.condF rfl (decide_eq_false (by first | with_reducible assumption | omega)) ?_
        | refine WC.condT rfl (by first | (simp; done) | (simp; omega)) ?_
        | refine WC.condF rfl (by first | (simp; done) | (simp; omega)) ?_
        | (refine WC.cond rfl (fun h => ?_) (fun h => ?_) <;> (try simp only [Classical.not_not, Bool.not_eq_true', Bool.not_eq_false', Bool.not_eq_eq_eq_not, Bool.not_true, Bool.not_false, beq_iff_eq, beq_eq_false_iff_ne, ne_eq, decide_eq_decide, decide_eq_true_eq, decide_eq_false_iff_not, Bool.and_eq_true, Bool.or_eq_true, Bool.and_eq_false_iff, Bool.or_eq_false_iff] at h) <;> (try (exfalso; first | omega | contradiction))))
      | (show WD _ _ _ _ _ _ _ _ _; first
        | refine WD.pure rfl rfl rfl rfl rfl ?_
        | refine WD.nil ?_
        | refine WD.load rfl rfl (LdOk.box (by repeat (first | exact List.Mem.head _ | apply List.Mem.tail)) rfl) rfl rfl rfl rfl ?_
        | refine WD.add rfl rfl rfl (by omega) rfl rfl rfl rfl ?_
        | refine WD.sub rfl rfl rfl (by omega) rfl rfl rfl rfl ?_
        | refine WD.conv64 rfl rfl rfl (by omega) rfl rfl rfl rfl ?_
        | refine WD.index rfl rfl rfl rfl (by first | with_reducible assumption | omega) rfl rfl rfl rfl rfl ?_
        | refine WD.index (j := 0) rfl rfl rfl rfl (by omega) rfl rfl rfl rfl rfl ?_
        | refine WD.indexArr rfl rfl rfl rfl (by decide) rfl rfl rfl rfl ?_
        | refine WD.pass rfl rfl rfl rfl ?_
        | refine WD.skip rfl rfl rfl rfl rfl (hM.ss hS) ?_
        | refine WD.build rfl rfl rfl rfl rfl rfl ?_
        | (refine WD.slit hS hM rfl rfl rfl rfl rfl rfl rfl ?_; intro w b hS hM)
        | refine WD.eqS rfl rfl rfl rfl (by kernel_rfl) rfl rfl rfl rfl ?_
        | refine WD.neS rfl rfl rfl rfl (by kernel_rfl) rfl rfl rfl rfl ?_
        | (refine WD.box hS hM rfl rfl rfl rfl rfl rfl rfl ?_; intro w b hS hM)
        | ((fail_if_success (refine WD.wanted rfl ?_)); refine WD.guard rfl rfl rfl (fun h => ?_) (fun h => ?_) <;> (try simp only [Classical.not_not, Bool.not_eq_true', Bool.not_eq_false', Bool.not_eq_eq_eq_not, Bool.not_true, Bool.not_false, beq_iff_eq, beq_eq_false_iff_ne, ne_eq, decide_eq_decide, decide_eq_true_eq, decide_eq_false_iff_not, Bool.and_eq_true, Bool.or_eq_true, Bool.and_eq_false_iff, Bool.or_eq_false_iff] at h) <;> (try (exfalso; first | omega | contradiction))))
      | refine seqQ_n ?_
      | refine blkQ_n ?_
      | refine seqQ_x ?_
      | refine seqQ_r ?_
      | refine blkQ_r ?_
      | refine blkQ_hit rfl ?_
      | refine blkQ_miss rfl ?_
      | refine rndQ_x ?_
      | refine rndQ_r ?_
      | refine rdQ_n ?_
      | refine rdQ_x ?_
      | refine rdQ_r ?_
      | refine cutQ_n ?_
      | refine cutQ_r ?_
      | refine cutQ_miss rfl ?_
      | refine endQ_x ?_
      | refine endQ_r ?_)
    all_goals
      have hlk2 : ∀ x ∈ l1 ++ l2, x.1.length ≤ 1099511627 := fun y hy => hlk y (by
        rw [hleft]
        rcases List.mem_append.1 hy with hy | hy
        · exact List.mem_append_left _ hy
        · exact List.mem_append_right _ (List.mem_cons_of_mem _ hy))
      rw [hleft] at hpm hdl
      have hpm2 : (d ++ ((k :: (l1 ++ l2).map Prod.fst).filter (parG p))).Perm ((m.map Prod.fst).filter (parG p)) := by
        refine List.Perm.trans ?_ hpm
        refine List.Perm.append_left d (List.Perm.filter _ ?_)
        rw [List.map_append, List.map_append, List.map_cons]
        exact List.perm_middle.symm
    · have hb : parG p k = true := decide_eq_true h
      rw [List.filter_cons_of_pos hb] at hpm2
      exact rndQ_n (d ++ [k], l1 ++ l2, some (k, _), A3, cap3) ⟨by rw [List.append_assoc]; exact hpm2, by simp at hdl ⊢; omega, hlk2, by
        have hS := hS.drop
        rw [List.length_append, ← strs_snoc]
        exact hS⟩ (by show (l1 ++ l2).length < (x :: left).length; rw [hleft]; simp) ⟨by rw [List.length_append]; rfl, trivial⟩ ⟨rfl, rfl, trivial⟩
    · have hb : ¬ parG p k = true := by unfold parG; rw [decide_eq_false h]; decide
      rw [List.filter_cons_of_neg hb] at hpm2
      exact rndQ_n (d, l1 ++ l2, some (k, _), A, cap) ⟨hpm2, by simp at hdl ⊢; omega, hlk2, hS⟩ (by show (l1 ++ l2).length < (x :: left).length; rw [hleft]; simp) ⟨rfl, trivial⟩ ⟨rfl, rfl, trivial⟩
def okM (m : List (List UInt8 × Value)) : Bool := Nat.ble m.length 1048576 && m.all (fun p => Nat.ble p.1.length 1000000000)
theorem okM_spec {ρ : En} {m m' : List (List UInt8 × Value)} (h : okM m = true) (hr : Mr ρ m m') : m'.length ≤ 1048576 ∧ ∀ p ∈ m', p.1.length ≤ 1000000000 := by
  unfold okM at h
  simp only [Bool.and_eq_true, List.all_eq_true] at h
  have hkeys := mr_keys hr
  have hlen : m'.length = m.length := by have := congrArg List.length hkeys; simpa using this
  refine ⟨by rw [hlen]; exact Nat.le_of_ble_eq_true h.1, fun p hp => ?_⟩
  have : p.1 ∈ m'.map Prod.fst := List.mem_map_of_mem hp
  rw [hkeys] at this
  obtain ⟨p2, hp2, e2⟩ := List.mem_map.1 this
  rw [← e2]
  exact Nat.le_of_ble_eq_true (h.2 p2 hp2)
def listB (H : AH) : List Value → Rs (Value × AH)
  | [.pointer (some ⟨q, o, none⟩), .string ⟨⟨p⟩⟩] => match Nat.beq o 0, H.get q with
    | true, some (.box ty [.map (some mb), c1, c2, c3, c4, c5]) => match Nat.beq ty 62, H.get mb with
      | true, some (.mapS m) => match okM m with
        | true => .ok (rowRes ⟨H.t, H.nx, [q, mb] ++ H.wr⟩ 9 (strs (sortI ((m.map Prod.fst).filter (parG p)))))
        | false => .no []
      | _, _ => .no []
    | _, _ => .no []
  | _ => .no []
theorem listB_ok {H H' : AH} {args args' : List Value} {v : Value} {ρ : En} {w0 w : World} (h : listB H args = .ok (v, H')) (ha : Vrs ρ args args') (hR : Rl ρ H w0 w) :
    Cal Tryz.prog 120 args' w fun v' w' => ∃ ρ', ρ.le ρ' ∧ Vr ρ' v v' ∧ Rl ρ' H' w0 w' ∧ Frm ρ H w H' w' := by
  unfold listB at h
  split at h
  · rename_i q o p
    split at h
    · rename_i ty mb c1 c2 c3 c4 c5 ho hq
      split at h
      · rename_i m ht hm
        split at h
        · rename_i hb
          have := Nat.eq_of_beq_eq_true ho; subst this
          have := Nat.eq_of_beq_eq_true ht; subst this
          have hres := Rs.ok.inj h
          obtain ⟨v1, v2, rfl, hv1, hv2⟩ : ∃ v1 v2, args' = [v1, v2] ∧ Vr ρ (.pointer (some ⟨q, 0, none⟩)) v1 ∧ Vr ρ (.string ⟨⟨p⟩⟩) v2 := by
            cases ha with | cons h1 ha => cases ha with | cons h2 ha => cases ha; exact ⟨_, _, rfl, h1, h2⟩
          obtain ⟨Lq, hLq, _, rfl⟩ := hv1.ptrS
          have hLq : ρ q = some Lq := hLq
          rw [hv2.string]
          obtain ⟨vm, hvm⟩ : ∃ cs', Vrs ρ [.map (some mb), c1, c2, c3, c4, c5] cs' := by
            obtain ⟨_, _, _, cs', r1, _⟩ := hR.at hq hLq
            exact ⟨cs', r1⟩
          obtain ⟨Lm, hLm⟩ : ∃ Lm, ρ mb = some Lm := by
            cases hvm with | cons h1 _ => obtain ⟨L, e, _⟩ := h1.mapS; exact ⟨L, e⟩
          clear vm hvm
          obtain ⟨cs', m', r1, r2, s1, s2, hin⟩ := boxMap_in hR hq hm hLq hLm
          obtain ⟨b1, b2⟩ := okM_spec hb r2
          obtain ⟨d1, d2, d3, d4, d5, rfl⟩ : ∃ d1 d2 d3 d4 d5, cs' = [.map (some Lm.blk), d1, d2, d3, d4, d5] := by
            have r := r1
            cases r with | cons h1 r => cases r with | cons h2 r => cases r with | cons h3 r => cases r with | cons h4 r => cases r with | cons h5 r => cases r with | cons h6 r => cases r; obtain ⟨L, e, e2⟩ := h1.mapS; rw [hLm] at e; cases e; rw [e2]; exact ⟨_, _, _, _, _, rfl⟩
          have hcal := dlistG_c p hin b1 (fun x hx => by have := b2 x hx; omega)
          show Cal _ _ [.pointer (some ⟨Lq.blk, Lq.sh + 0, none⟩), _] _ _
          have hz : Lq.sh + 0 = 0 := by omega
          rw [hz]
          refine hcal.mono fun v' w' ⟨A, cap, ev, hmut⟩ => ?_
          subst ev
          have hl : listG m' p = sortI ((m.map Prod.fst).filter (parG p)) := by unfold listG sortS; rw [mr_keys r2, sortI_eq]
          rw [hl] at hmut ⊢
          have hlen := strs_len (sortI ((m.map Prod.fst).filter (parG p)))
          rw [← hlen] at hmut ⊢
          have hfin := boxMap_row hR hq hm hLq hLm r1 r2 s1 s2 hmut (strs_clo _)
          rw [hres] at hfin
          exact hfin
        · cases h
      · cases h
    · cases h
  · cases h
theorem listB_wr {H H' : AH} {args : List Value} {v : Value} (h : listB H args = .ok (v, H')) : ∀ b ∈ H.wr, b ∈ H'.wr := by
  unfold listB at h
  repeat' split at h
  all_goals first
    | (cases h; done)
    | (have e := congrArg Prod.snd (Rs.ok.inj h)
       simp only at e
       rw [← e]; exact fun b hb => rowRes_wr b (List.mem_append_right _ hb))
end Go.Proofs.YtlfhglcccmghlaaGreatDoor

/- What is proved: what the functions that give a table's keys do, over any content. Conditions: bounded lengths. -/
set_option linter.unusedSimpArgs false
set_option linter.unusedVariables false
namespace Go.Proofs.YtlfhglcccmghlaaGreatDoor
open Go Go.J Go.RowKit
def begG (p k : List UInt8) : Bool := decide (k.take p.length = p)
def keysG (kv : KV) (p : List UInt8) : List (List UInt8) := sortS ((kv.map Prod.fst).filter (begG p))
set_option maxHeartbeats 16000000 in
set_option maxRecDepth 100000 in
theorem tkeysG_c {Tp m : Nat} {c0 c1 c2 : Value} {kv : KV} (p : List UInt8) {w0 : World} (hi : InL w0 [.box Tp 144 [c0, c1, c2, .map (some m)], mapC m kv]) (hn : kv.length ≤ 1099511627776) :
    Cal Tryz.prog 232 [.pointer (some ⟨Tp, 0, none⟩), str p] w0 (fun v w' => ∃ A cap, v = .slice A (keysG kv p).length cap ∧ MutL w0 w' [.box Tp 144 [c0, c1, c2, .map (some m)], mapC m kv] [.box Tp 144 [c0, c1, c2, .map (some m)], mapC m kv, .own (.slice A (keysG kv p).length cap) 9 1 (keysG kv p).length (strs (keysG kv p))]) := by
  refine Cal.mkL hi (by kernel_rfl) Tryz.func232 rfl rfl fun hS => ?_
  repeat' (first
    | (show WL _ _ _ _ _ _ _; first
      | refine WL.pure rfl rfl rfl rfl ?_
      | refine WL.nil ?_
      | refine WL.load hS rfl rfl (LdOk.box (by repeat (first | exact List.Mem.head _ | apply List.Mem.tail)) rfl) rfl rfl rfl ?_
      | refine WL.add rfl rfl rfl (by omega) rfl rfl rfl ?_
      | refine WL.sub rfl rfl rfl (by omega) rfl rfl rfl ?_
      | (refine WL.slit (t := 29) hS rfl rfl rfl rfl rfl ?_; intro w ob hS; have hS := hS.boxRow (n := 0) (size := 1) .here rfl (Nat.zero_le _))
      | (refine WL.mrange hS rfl rfl rfl (fun r => by repeat (first | exact Repl.here | apply Repl.there)) rfl rfl rfl ?_; intro w r hS)
      | refine WL.conv64 rfl rfl rfl (by omega) rfl rfl rfl ?_
      | refine WL.cat rfl rfl rfl (by omega) rfl rfl rfl ?_
      | refine WL.idxS rfl rfl rfl rfl (by with_reducible assumption) rfl rfl rfl ?_
      | refine WL.lowS rfl rfl rfl rfl (by omega) rfl rfl rfl ?_
      | refine WL.highS rfl rfl rfl rfl (by omega) rfl rfl rfl ?_
      | refine WL.midS rfl rfl rfl rfl rfl (by omega) (by omega) rfl rfl rfl ?_
      | refine WL.maxI rfl rfl rfl rfl rfl rfl ?_
      | refine WL.minI rfl rfl rfl rfl rfl rfl ?_
      | (refine WL.store hS rfl rfl rfl (by repeat (first | exact StB.here rfl | apply StB.there)) rfl rfl rfl ?_; intro w hS)
      | (refine WL.box hS rfl rfl rfl rfl rfl ?_; intro w b hS)
      | (refine WL.alloc hS rfl rfl rfl rfl rfl rfl ?_; intro w b hS)
      | refine WL.index rfl rfl rfl rfl (by first | with_reducible assumption | omega) rfl rfl rfl rfl ?_
      | refine WL.index (j := 0) rfl rfl rfl rfl (by omega) rfl rfl rfl rfl ?_
      | refine WL.indexArr rfl rfl rfl rfl (by decide) rfl rfl rfl ?_
      | refine WL.skip rfl rfl rfl ?_
      | refine WL.build rfl rfl rfl rfl rfl ?_
      | (refine WL.slit hS rfl rfl rfl rfl rfl ?_; intro w b hS)
      | refine WL.eqS rfl rfl rfl rfl (by kernel_rfl) rfl rfl rfl ?_
      | refine WL.neS rfl rfl rfl rfl (by kernel_rfl) rfl rfl rfl ?_
      | ((fail_if_success (refine WL.wanted rfl ?_)); refine WL.guard rfl rfl rfl (fun h => ?_) (fun h => ?_) <;> (try simp only [Classical.not_not, Bool.not_eq_true', Bool.not_eq_false', Bool.not_eq_eq_eq_not, Bool.not_true, Bool.not_false, beq_iff_eq, beq_eq_false_iff_ne, ne_eq, decide_eq_decide, decide_eq_true_eq, decide_eq_false_iff_not, Bool.and_eq_true, Bool.or_eq_true, Bool.and_eq_false_iff, Bool.or_eq_false_iff] at h) <;> (try (exfalso; first | omega | contradiction))))
    | (show WC _ _ _ _ _ _; first
      | refine WC.seq ?_
      | refine WC.region ?_
      | refine WC.block ?_
      | refine WC.skip ?_
      | refine WC.exit ?_
      | refine WC.ret ?_
      | refine WC.condT rfl (by with_reducible rfl) ?_
      | refine WC.condF rfl (by with_reducible rfl) ?_
      | refine WC.condT rfl (by decide) ?_
      | refine WC.condF rfl (by decide) ?_
      | refine WC.condT rfl (decide_eq_true (by first | with_reducible assumption | omega)) ?_
      | refine WC.condF rfl (decide_eq_false (by first | with_reducible assumption | omega)) ?_
      | refine WC.condT rfl (by first | (simp; done) | (simp; omega)) ?_
      | refine WC.condF rfl (by first | (simp; done) | (simp; omega)) ?_
      | (refine WC.cond rfl (fun h => ?_) (fun h => ?_) <;> (try simp only [Classical.not_not, Bool.not_eq_true', Bool.not_eq_false', Bool.not_eq_eq_eq_not, Bool.not_true, Bool.not_false, beq_iff_eq, beq_eq_false_iff_ne, ne_eq, decide_eq_decide, decide_eq_true_eq, decide_eq_false_iff_not, Bool.and_eq_true, Bool.or_eq_true, Bool.and_eq_false_iff, Bool.or_eq_false_iff] at h) <;> (try (exfalso; first | omega | contradiction))))
    | (show WD _ _ _ _ _ _ _ _ _; first
      | refine WD.pure rfl rfl rfl rfl rfl ?_
      | refine WD.nil ?_
      | refine WD.load rfl rfl (LdOk.box (by repeat (first | exact List.Mem.head _ | apply List.Mem.tail)) rfl) rfl rfl rfl rfl ?_
      | refine WD.add rfl rfl rfl (by omega) rfl rfl rfl rfl ?_
      | refine WD.sub rfl rfl rfl (by omega) rfl rfl rfl rfl ?_
      | refine WD.conv64 rfl rfl rfl (by omega) rfl rfl rfl rfl ?_
      | refine WD.index rfl rfl rfl rfl (by first | with_reducible assumption | omega) rfl rfl rfl rfl rfl ?_
      | refine WD.index (j := 0) rfl rfl rfl rfl (by omega) rfl rfl rfl rfl rfl ?_
      | refine WD.indexArr rfl rfl rfl rfl (by decide) rfl rfl rfl rfl ?_
      | refine WD.pass rfl rfl rfl rfl ?_
      | refine WD.skip rfl rfl rfl rfl rfl (hM.ss hS) ?_
      | refine WD.build rfl rfl rfl rfl rfl rfl ?_
      | (refine WD.slit hS hM rfl rfl rfl rfl rfl rfl rfl ?_; intro w b hS hM)
      | refine WD.eqS rfl rfl rfl rfl (by kernel_rfl) rfl rfl rfl rfl ?_
      | refine WD.neS rfl rfl rfl rfl (by kernel_rfl) rfl rfl rfl rfl ?_
      | (refine WD.box hS hM rfl rfl rfl rfl rfl rfl rfl ?_; intro w b hS hM)
      | ((fail_if_success (refine WD.wanted rfl ?_)); refine WD.guard rfl rfl rfl (fun h => ?_) (fun h => ?_) <;> (try simp only [Classical.not_not, Bool.not_eq_true', Bool.not_eq_false', Bool.not_eq_eq_eq_not, Bool.not_true, Bool.not_false, beq_iff_eq, beq_eq_false_iff_ne, ne_eq, decide_eq_decide, decide_eq_true_eq, decide_eq_false_iff_not, Bool.and_eq_true, Bool.or_eq_true, Bool.and_eq_false_iff, Bool.or_eq_false_iff] at h) <;> (try (exfalso; first | omega | contradiction))))
    | refine seqQ_n ?_
    | refine blkQ_n ?_
    | refine seqQ_x ?_
    | refine seqQ_r ?_
    | refine blkQ_r ?_
    | refine blkQ_hit rfl ?_
    | refine blkQ_miss rfl ?_
    | refine rndQ_x ?_
    | refine rndQ_r ?_
    | refine rdQ_n ?_
    | refine rdQ_x ?_
    | refine rdQ_r ?_
    | refine cutQ_n ?_
    | refine cutQ_r ?_
    | refine cutQ_miss rfl ?_
    | refine endQ_x ?_
    | refine endQ_r ?_)
  replace hS := hS.droplast2 (D := [.own (.slice (some ⟨ob, 0, none⟩) 0 0) 9 1 0 [], rngC m r kv kv none, .box Tp 144 [c0, c1, c2, .map (some m)]]) (by repeat (first | exact Pulls.nil | (apply Pulls.cons; focus (repeat (first | exact Pull.here | apply Pull.there)))))
  refine WC.loop (σ := List (List UInt8) × KV × Option (List UInt8 × Value) × Option Addr × Nat) [1, 15] (fun (d, left, cur, A, cap) => [(5, .slice A d.length cap)])
    (fun (d, left, cur, A, cap) w => (d ++ (left.map Prod.fst).filter (begG p)).Perm ((kv.map Prod.fst).filter (begG p)) ∧ d.length + left.length ≤ kv.length ∧ St w0 (fps [.box Tp 144 [c0, c1, c2, .map (some m)], mapC m kv]) w [.own (.slice A d.length cap) 9 1 d.length (strs d), rngC m r kv left cur, .box Tp 144 [c0, c1, c2, .map (some m)]] (ZL w0 [.box Tp 144 [c0, c1, c2, .map (some m)], mapC m kv]))
    (fun (d, left, cur, A, cap) => left.length) ([], kv, none, some ⟨ob, 0, none⟩, 0) ⟨.refl _, by simp, hS⟩ ⟨rfl, trivial⟩ ?_
  clear hS
  rintro ⟨d, left, cur, A, cap⟩ g w ⟨hpm, hdl, hS⟩
  show WC _ _ _ (lf _ [(5, .slice A d.length cap)] _ _) _ _
  rcases left with _ | ⟨x, left⟩
  · rw [List.map_nil, List.filter_nil, List.append_nil] at hpm
    have hsl : sortS d = keysG kv p := sort_perm' hpm
    have hsn : d.length = (keysG kv p).length := by rw [← hsl, sortS_len]
    simp only [List.length_nil, Nat.add_zero] at hdl
    repeat' (first
      | (show WL _ _ _ _ _ _ _; first
        | refine WL.pure rfl rfl rfl rfl ?_
        | refine WL.nil ?_
        | refine WL.load hS rfl rfl (LdOk.box (by repeat (first | exact List.Mem.head _ | apply List.Mem.tail)) rfl) rfl rfl rfl ?_
        | refine WL.add rfl rfl rfl (by omega) rfl rfl rfl ?_
        | refine WL.sub rfl rfl rfl (by omega) rfl rfl rfl ?_
        | (refine WL.mnext hS rfl rfl (fun l' p => by repeat (first | exact Repl.here | apply Repl.there)) rfl rfl rfl (fun _ => ?_) (fun l1 k v l2 h => absurd h (by simp)))
        | (refine WL.callL (D := [.own (.slice A d.length cap) 9 1 d.length (strs d)]) hS (by repeat (first | exact Pulls.nil | (apply Pulls.cons; focus (repeat (first | exact Pull.here | apply Pull.there))))) rfl rfl (fun hI => sort_c hI.head hI.headB (by omega)) rfl rfl rfl ?_; rintro v w ⟨rfl, hm⟩ hS; replace hS := hS _ (.of1 hm); clear hm)
        | refine WL.conv64 rfl rfl rfl (by omega) rfl rfl rfl ?_
        | refine WL.cat rfl rfl rfl (by omega) rfl rfl rfl ?_
        | refine WL.idxS rfl rfl rfl rfl (by with_reducible assumption) rfl rfl rfl ?_
        | refine WL.lowS rfl rfl rfl rfl (by omega) rfl rfl rfl ?_
        | refine WL.highS rfl rfl rfl rfl (by omega) rfl rfl rfl ?_
        | refine WL.midS rfl rfl rfl rfl rfl (by omega) (by omega) rfl rfl rfl ?_
        | refine WL.maxI rfl rfl rfl rfl rfl rfl ?_
        | refine WL.minI rfl rfl rfl rfl rfl rfl ?_
        | (refine WL.store hS rfl rfl rfl (by repeat (first | exact StB.here rfl | apply StB.there)) rfl rfl rfl ?_; intro w hS)
        | (refine WL.box hS rfl rfl rfl rfl rfl ?_; intro w b hS)
        | (refine WL.alloc hS rfl rfl rfl rfl rfl rfl ?_; intro w b hS)
        | refine WL.index rfl rfl rfl rfl (by first | with_reducible assumption | omega) rfl rfl rfl rfl ?_
        | refine WL.index (j := 0) rfl rfl rfl rfl (by omega) rfl rfl rfl rfl ?_
        | refine WL.indexArr rfl rfl rfl rfl (by decide) rfl rfl rfl ?_
        | refine WL.skip rfl rfl rfl ?_
        | refine WL.build rfl rfl rfl rfl rfl ?_
        | (refine WL.slit hS rfl rfl rfl rfl rfl ?_; intro w b hS)
        | refine WL.eqS rfl rfl rfl rfl (by kernel_rfl) rfl rfl rfl ?_
        | refine WL.neS rfl rfl rfl rfl (by kernel_rfl) rfl rfl rfl ?_
        | ((fail_if_success (refine WL.wanted rfl ?_)); refine WL.guard rfl rfl rfl (fun h => ?_) (fun h => ?_) <;> (try simp only [Classical.not_not, Bool.not_eq_true', Bool.not_eq_false', Bool.not_eq_eq_eq_not, Bool.not_true, Bool.not_false, beq_iff_eq, beq_eq_false_iff_ne, ne_eq, decide_eq_decide, decide_eq_true_eq, decide_eq_false_iff_not, Bool.and_eq_true, Bool.or_eq_true, Bool.and_eq_false_iff, Bool.or_eq_false_iff] at h) <;> (try (exfalso; first | omega | contradiction))))
      | (show WC _ _ _ _ _ _; first
        | refine WC.seq ?_
        | refine WC.region ?_
        | refine WC.block ?_
        | refine WC.skip ?_
        | refine WC.exit ?_
        | refine WC.ret ?_
        | refine WC.condT rfl (by with_reducible rfl) ?_
        | refine WC.condF rfl (by with_reducible rfl) ?_
        | refine WC.condT rfl (by decide) ?_
        | refine WC.condF rfl (by decide) ?_
        | refine WC.condT rfl (decide_eq_true (by first | with_reducible assumption | omega)) ?_
        | refine WC.condF rfl (decide_eq_false (by first | with_reducible assumption | omega)) ?_
        | refine WC.condT rfl (by first | (simp; done) | (simp; omega)) ?_
        | refine WC.condF rfl (by first | (simp; done) | (simp; omega)) ?_
        | (refine WC.cond rfl (fun h => ?_) (fun h => ?_) <;> (try simp only [Classical.not_not, Bool.not_eq_true', Bool.not_eq_false', Bool.not_eq_eq_eq_not, Bool.not_true, Bool.not_false, beq_iff_eq, beq_eq_false_iff_ne, ne_eq, decide_eq_decide, decide_eq_true_eq, decide_eq_false_iff_not, Bool.and_eq_true, Bool.or_eq_true, Bool.and_eq_false_iff, Bool.or_eq_false_iff] at h) <;> (try (exfalso; first | omega | contradiction))))
      | (show WD _ _ _ _ _ _ _ _ _; first
        | refine WD.pure rfl rfl rfl rfl rfl ?_
        | refine WD.nil ?_
        | refine WD.load rfl rfl (LdOk.box (by repeat (first | exact List.Mem.head _ | apply List.Mem.tail)) rfl) rfl rfl rfl rfl ?_
        | refine WD.add rfl rfl rfl (by omega) rfl rfl rfl rfl ?_
        | refine WD.sub rfl rfl rfl (by omega) rfl rfl rfl rfl ?_
        | refine WD.conv64 rfl rfl rfl (by omega) rfl rfl rfl rfl ?_
        | refine WD.index rfl rfl rfl rfl (by first | with_reducible assumption | omega) rfl rfl rfl rfl rfl ?_
        | refine WD.index (j := 0) rfl rfl rfl rfl (by omega) rfl rfl rfl rfl rfl ?_
        | refine WD.indexArr rfl rfl rfl rfl (by decide) rfl rfl rfl rfl ?_
        | refine WD.pass rfl rfl rfl rfl ?_
        | refine WD.skip rfl rfl rfl rfl rfl (hM.ss hS) ?_
        | refine WD.build rfl rfl rfl rfl rfl rfl ?_
        | (refine WD.slit hS hM rfl rfl rfl rfl rfl rfl rfl ?_; intro w b hS hM)
        | refine WD.eqS rfl rfl rfl rfl (by kernel_rfl) rfl rfl rfl rfl ?_
        | refine WD.neS rfl rfl rfl rfl (by kernel_rfl) rfl rfl rfl rfl ?_
        | (refine WD.box hS hM rfl rfl rfl rfl rfl rfl rfl ?_; intro w b hS hM)
        | ((fail_if_success (refine WD.wanted rfl ?_)); refine WD.guard rfl rfl rfl (fun h => ?_) (fun h => ?_) <;> (try simp only [Classical.not_not, Bool.not_eq_true', Bool.not_eq_false', Bool.not_eq_eq_eq_not, Bool.not_true, Bool.not_false, beq_iff_eq, beq_eq_false_iff_ne, ne_eq, decide_eq_decide, decide_eq_true_eq, decide_eq_false_iff_not, Bool.and_eq_true, Bool.or_eq_true, Bool.and_eq_false_iff, Bool.or_eq_false_iff] at h) <;> (try (exfalso; first | omega | contradiction))))
      | refine seqQ_n ?_
      | refine blkQ_n ?_
      | refine seqQ_x ?_
      | refine seqQ_r ?_
      | refine blkQ_r ?_
      | refine blkQ_hit rfl ?_
      | refine blkQ_miss rfl ?_
      | refine rndQ_x ?_
      | refine rndQ_r ?_
      | refine rdQ_n ?_
      | refine rdQ_x ?_
      | refine rdQ_r ?_
      | refine cutQ_n ?_
      | refine cutQ_r ?_
      | refine cutQ_miss rfl ?_
      | refine endQ_x ?_
      | refine endQ_r ?_)
    have hS := hS.rngEnd (H' := [.own (.slice A d.length cap) 9 1 d.length (strs (sortS d)), mapC m kv, .box Tp 144 [c0, c1, c2, .map (some m)]]) (by repeat (first | exact Repl.here | apply Repl.there))
    rw [hsl, hsn] at hS
    exact fin1r rfl rfl ⟨A, cap, by rw [hsn], hS.mutLp (by repeat (first | exact Pulls.nil | (apply Pulls.cons; focus (repeat (first | exact Pull.here | apply Pull.there)))))⟩
  · have hcap := (hS.own_len (List.Mem.head _)).2.2
    repeat' (first
      | (show WL _ _ _ _ _ _ _; first
        | refine WL.pure rfl rfl rfl rfl ?_
        | refine WL.nil ?_
        | refine WL.load hS rfl rfl (LdOk.box (by repeat (first | exact List.Mem.head _ | apply List.Mem.tail)) rfl) rfl rfl rfl ?_
        | refine WL.add rfl rfl rfl (by omega) rfl rfl rfl ?_
        | refine WL.sub rfl rfl rfl (by omega) rfl rfl rfl ?_
        | (refine WL.mnext hS rfl rfl (fun l' p => by repeat (first | exact Repl.here | apply Repl.there)) rfl rfl rfl (fun h => absurd h (by simp)) (fun l1 k v l2 hleft w hS => ?_))
        | (refine WL.mentry hS rfl rfl (by repeat (first | exact List.Mem.head _ | apply List.Mem.tail)) rfl rfl rfl ?_)
        | (refine WL.calls hS rfl rfl (hasPrefix_c k p _) rfl rfl rfl ?_; rintro v w rfl hS)
        | (refine WL.app hS rfl rfl rfl rfl (RdOk.box (by repeat (first | exact List.Mem.head _ | apply List.Mem.tail))) rfl rfl (fun A cap => by repeat (first | exact Repl.here | apply Repl.there)) (by omega) rfl rfl rfl ?_; intro A3 cap3 w hS)
        | refine WL.conv64 rfl rfl rfl (by omega) rfl rfl rfl ?_
        | refine WL.cat rfl rfl rfl (by omega) rfl rfl rfl ?_
        | refine WL.idxS rfl rfl rfl rfl (by with_reducible assumption) rfl rfl rfl ?_
        | refine WL.lowS rfl rfl rfl rfl (by omega) rfl rfl rfl ?_
        | refine WL.highS rfl rfl rfl rfl (by omega) rfl rfl rfl ?_
        | refine WL.midS rfl rfl rfl rfl rfl (by omega) (by omega) rfl rfl rfl ?_
        | refine WL.maxI rfl rfl rfl rfl rfl rfl ?_
        | refine WL.minI rfl rfl rfl rfl rfl rfl ?_
        | (refine WL.store hS rfl rfl rfl (by repeat (first | exact StB.here rfl | apply StB.there)) rfl rfl rfl ?_; intro w hS)
        | (refine WL.box hS rfl rfl rfl rfl rfl ?_; intro w b hS)
        | (refine WL.alloc hS rfl rfl rfl rfl rfl rfl ?_; intro w b hS)
        | refine WL.index rfl rfl rfl rfl (by first | with_reducible assumption | omega) rfl rfl rfl rfl ?_
        | refine WL.index (j := 0) rfl rfl rfl rfl (by omega) rfl rfl rfl rfl ?_
        | refine WL.indexArr rfl rfl rfl rfl (by decide) rfl rfl rfl ?_
        | refine WL.skip rfl rfl rfl ?_
        | refine WL.build rfl rfl rfl rfl rfl ?_
        | (refine WL.slit hS rfl rfl rfl rfl rfl ?_; intro w b hS)
        | refine WL.eqS rfl rfl rfl rfl (by kernel_rfl) rfl rfl rfl ?_
        | refine WL.neS rfl rfl rfl rfl (by kernel_rfl) rfl rfl rfl ?_
        | ((fail_if_success (refine WL.wanted rfl ?_)); refine WL.guard rfl rfl rfl (fun h => ?_) (fun h => ?_) <;> (try simp only [Classical.not_not, Bool.not_eq_true', Bool.not_eq_false', Bool.not_eq_eq_eq_not, Bool.not_true, Bool.not_false, beq_iff_eq, beq_eq_false_iff_ne, ne_eq, decide_eq_decide, decide_eq_true_eq, decide_eq_false_iff_not, Bool.and_eq_true, Bool.or_eq_true, Bool.and_eq_false_iff, Bool.or_eq_false_iff] at h) <;> (try (exfalso; first | omega | contradiction))))
      | (show WC _ _ _ _ _ _; first
        | refine WC.seq ?_
        | refine WC.region ?_
        | refine WC.block ?_
        | refine WC.skip ?_
        | refine WC.exit ?_
        | refine WC.ret ?_
        | refine WC.condT rfl (by with_reducible rfl) ?_
        | refine WC.condF rfl (by with_reducible rfl) ?_
        | refine WC.condT rfl (by decide) ?_
        | refine WC.condF rfl (by decide) ?_
        | refine WC.condT rfl (decide_eq_true (by first | with_reducible assumption | omega)) ?_
        | refine WC.condF rfl (decide_eq_false (by first | with_reducible assumption | omega)) ?_
        | refine WC.condT rfl (by first | (simp; done) | (simp; omega)) ?_
        | refine WC.condF rfl (by first | (simp; done) | (simp; omega)) ?_
        | (refine WC.cond rfl (fun h => ?_) (fun h => ?_) <;> (try simp only [Classical.not_not, Bool.not_eq_true', Bool.not_eq_false', Bool.not_eq_eq_eq_not, Bool.not_true, Bool.not_false, beq_iff_eq, beq_eq_false_iff_ne, ne_eq, decide_eq_decide, decide_eq_true_eq, decide_eq_false_iff_not, Bool.and_eq_true, Bool.or_eq_true, Bool.and_eq_false_iff, Bool.or_eq_false_iff] at h) <;> (try (exfalso; first | omega | contradiction))))
      | (show WD _ _ _ _ _ _ _ _ _; first
        | refine WD.pure rfl rfl rfl rfl rfl ?_
        | refine WD.nil ?_
        | refine WD.load rfl rfl (LdOk.box (by repeat (first | exact List.Mem.head _ | apply List.Mem.tail)) rfl) rfl rfl rfl rfl ?_
        | refine WD.add rfl rfl rfl (by omega) rfl rfl rfl rfl ?_
        | refine WD.sub rfl rfl rfl (by omega) rfl rfl rfl rfl ?_
        | refine WD.conv64 rfl rfl rfl (by omega) rfl rfl rfl rfl ?_
        | refine WD.index rfl rfl rfl rfl (by first | with_reducible assumption | omega) rfl rfl rfl rfl rfl ?_
        | refine WD.index (j := 0) rfl rfl rfl rfl (by omega) rfl rfl rfl rfl rfl ?_
        | refine WD.indexArr rfl rfl rfl rfl (by decide) rfl rfl rfl rfl ?_
        | refine WD.pass rfl rfl rfl rfl ?_
        | refine WD.skip rfl rfl rfl rfl rfl (hM.ss hS) ?_
        | refine WD.build rfl rfl rfl rfl rfl rfl ?_
        | (refine WD.slit hS hM rfl rfl rfl rfl rfl rfl rfl ?_; intro w b hS hM)
        | refine WD.eqS rfl rfl rfl rfl (by kernel_rfl) rfl rfl rfl rfl ?_
        | refine WD.neS rfl rfl rfl rfl (by kernel_rfl) rfl rfl rfl rfl ?_
        | (refine WD.box hS hM rfl rfl rfl rfl rfl rfl rfl ?_; intro w b hS hM)
        | ((fail_if_success (refine WD.wanted rfl ?_)); refine WD.guard rfl rfl rfl (fun h => ?_) (fun h => ?_) <;> (try simp only [Classical.not_not, Bool.not_eq_true', Bool.not_eq_false', Bool.not_eq_eq_eq_not, Bool.not_true, Bool.not_false, beq_iff_eq, beq_eq_false_iff_ne, ne_eq, decide_eq_decide, decide_eq_true_eq, decide_eq_false_iff_not, Bool.and_eq_true, Bool.or_eq_true, Bool.and_eq_false_iff, Bool.or_eq_false_iff] at h) <;> (try (exfalso; first | omega | contradiction))))
      | refine seqQ_n ?_
      | refine blkQ_n ?_
      | refine seqQ_x ?_
      | refine seqQ_r ?_
      | refine blkQ_r ?_
      | refine blkQ_hit rfl ?_
      | refine blkQ_miss rfl ?_
      | refine rndQ_x ?_
      | refine rndQ_r ?_
      | refine rdQ_n ?_
      | refine rdQ_x ?_
      | refine rdQ_r ?_
      | refine cutQ_n ?_
      | refine cutQ_r ?_
      | refine cutQ_miss rfl ?_
      | refine endQ_x ?_
      | refine endQ_r ?_)
    all_goals
      rw [hleft] at hpm hdl
      have hpm2 : (d ++ ((k :: (l1 ++ l2).map Prod.fst).filter (begG p))).Perm ((kv.map Prod.fst).filter (begG p)) := by
        refine List.Perm.trans ?_ hpm
        refine List.Perm.append_left d (List.Perm.filter _ ?_)
        rw [List.map_append, List.map_append, List.map_cons]
        exact List.perm_middle.symm
    · have hb : begG p k = true := decide_eq_true h
      rw [List.filter_cons_of_pos hb] at hpm2
      exact rndQ_n (d ++ [k], l1 ++ l2, some (k, _), A3, cap3) ⟨by rw [List.append_assoc]; exact hpm2, by simp at hdl ⊢; omega, by
        have hS := hS.drop
        rw [List.length_append, ← strs_snoc]
        exact hS⟩ (by show (l1 ++ l2).length < (x :: left).length; rw [hleft]; simp) ⟨by rw [List.length_append]; rfl, trivial⟩ ⟨rfl, rfl, trivial⟩
    · have hb : ¬ begG p k = true := by unfold begG; rw [decide_eq_false h]; decide
      rw [List.filter_cons_of_neg hb] at hpm2
      exact rndQ_n (d, l1 ++ l2, some (k, _), A, cap) ⟨hpm2, by simp at hdl ⊢; omega, hS⟩ (by show (l1 ++ l2).length < (x :: left).length; rw [hleft]; simp) ⟨rfl, trivial⟩ ⟨rfl, rfl, trivial⟩
def tkeysB (H : AH) : List Value → Rs (Value × AH)
  | [.pointer (some ⟨q, o, none⟩), .string ⟨⟨p⟩⟩] => match Nat.beq o 0, H.get q with
    | true, some (.box ty [c1, c2, c3, .map (some mb)]) => match Nat.beq ty 144, H.get mb with
      | true, some (.mapS m) => match okM m with
        | true => .ok (rowRes ⟨H.t, H.nx, [q, mb] ++ H.wr⟩ 9 (strs (sortI ((m.map Prod.fst).filter (begG p)))))
        | false => .no []
      | _, _ => .no []
    | _, _ => .no []
  | _ => .no []
theorem tkeysB_ok {H H' : AH} {args args' : List Value} {v : Value} {ρ : En} {w0 w : World} (h : tkeysB H args = .ok (v, H')) (ha : Vrs ρ args args') (hR : Rl ρ H w0 w) :
    Cal Tryz.prog 232 args' w fun v' w' => ∃ ρ', ρ.le ρ' ∧ Vr ρ' v v' ∧ Rl ρ' H' w0 w' ∧ Frm ρ H w H' w' := by
  unfold tkeysB at h
  split at h
  · rename_i q o p
    split at h
    · rename_i ty c1 c2 c3 mb ho hq
      split at h
      · rename_i m ht hm
        split at h
        · rename_i hb
          have := Nat.eq_of_beq_eq_true ho; subst this
          have := Nat.eq_of_beq_eq_true ht; subst this
          have hres := Rs.ok.inj h
          obtain ⟨v1, v2, rfl, hv1, hv2⟩ : ∃ v1 v2, args' = [v1, v2] ∧ Vr ρ (.pointer (some ⟨q, 0, none⟩)) v1 ∧ Vr ρ (.string ⟨⟨p⟩⟩) v2 := by
            cases ha with | cons h1 ha => cases ha with | cons h2 ha => cases ha; exact ⟨_, _, rfl, h1, h2⟩
          obtain ⟨Lq, hLq, _, rfl⟩ := hv1.ptrS
          have hLq : ρ q = some Lq := hLq
          rw [hv2.string]
          obtain ⟨vm, hvm⟩ : ∃ cs', Vrs ρ [c1, c2, c3, .map (some mb)] cs' := by
            obtain ⟨_, _, _, cs', r1, _⟩ := hR.at hq hLq
            exact ⟨cs', r1⟩
          obtain ⟨Lm, hLm⟩ : ∃ Lm, ρ mb = some Lm := by
            cases hvm with | cons h1 r => cases r with | cons h2 r => cases r with | cons h3 r => cases r with | cons h4 r => obtain ⟨L, e, _⟩ := h4.mapS; exact ⟨L, e⟩
          clear vm hvm
          obtain ⟨cs', m', r1, r2, s1, s2, hin⟩ := boxMap_in hR hq hm hLq hLm
          obtain ⟨b1, b2⟩ := okM_spec hb r2
          obtain ⟨d1, d2, d3, rfl⟩ : ∃ d1 d2 d3, cs' = [d1, d2, d3, .map (some Lm.blk)] := by
            have r := r1
            cases r with | cons h1 r => cases r with | cons h2 r => cases r with | cons h3 r => cases r with | cons h4 r => cases r; obtain ⟨L, e, e2⟩ := h4.mapS; rw [hLm] at e; cases e; rw [e2]; exact ⟨_, _, _, rfl⟩
          have hcal := tkeysG_c p hin (by omega)
          show Cal _ _ [.pointer (some ⟨Lq.blk, Lq.sh + 0, none⟩), _] _ _
          have hz : Lq.sh + 0 = 0 := by omega
          rw [hz]
          refine hcal.mono fun v' w' ⟨A, cap, ev, hmut⟩ => ?_
          subst ev
          have hl : keysG m' p = sortI ((m.map Prod.fst).filter (begG p)) := by unfold keysG sortS; rw [mr_keys r2, sortI_eq]
          rw [hl] at hmut ⊢
          have hlen := strs_len (sortI ((m.map Prod.fst).filter (begG p)))
          rw [← hlen] at hmut ⊢
          have hfin := boxMap_row hR hq hm hLq hLm r1 r2 s1 s2 hmut (strs_clo _)
          rw [hres] at hfin
          exact hfin
        · cases h
      · cases h
    · cases h
  · cases h
theorem tkeysB_wr {H H' : AH} {args : List Value} {v : Value} (h : tkeysB H args = .ok (v, H')) : ∀ b ∈ H.wr, b ∈ H'.wr := by
  unfold tkeysB at h
  repeat' split at h
  all_goals first
    | (cases h; done)
    | (have e := congrArg Prod.snd (Rs.ok.inj h)
       simp only at e
       rw [← e]; exact fun b hb => rowRes_wr b (List.mem_append_right _ hb))
end Go.Proofs.YtlfhglcccmghlaaGreatDoor

/- What is proved: what the function that gives a batch's keys does, over any content. Conditions: bounded lengths. -/
set_option linter.unusedSimpArgs false
set_option linter.unusedVariables false
namespace Go.Proofs.YtlfhglcccmghlaaGreatDoor
open Go Go.J Go.RowKit
theorem perm_midG {α : Type} (l1 l2 : List α) (x : α) : (l1 ++ x :: l2).Perm (x :: (l1 ++ l2)) := List.perm_middle
theorem look_rowG (m : Rws) (k : List UInt8) : lookV (encRow []) (mmap encRow m) k true = .tuple #[encRow ((mget m k).getD []), .bool (mget m k).isSome] := by
  unfold lookV
  rw [mget_map]
  cases mget m k <;> rfl
def getG (rows : Rws) (k : List UInt8) : List UInt8 × Bool := ((mget rows k).getD [], (mget rows k).isSome)
set_option maxHeartbeats 4000000 in
set_option maxRecDepth 100000 in
theorem tgetG_c {Tp m2 : Nat} {d0 d1 d2 : Value} {rows : Rws} (k : List UInt8) {w0 : World} (hi : InL w0 [.box Tp 144 [d0, d1, d2, .map (some m2)], mapC m2 (mmap encRow rows)]) :
    Cal Tryz.prog 40 [.pointer (some ⟨Tp, 0, none⟩), str k] w0 (fun v w' => v = .tuple #[str (getG rows k).1, .bool (getG rows k).2] ∧ MutL w0 w' [.box Tp 144 [d0, d1, d2, .map (some m2)], mapC m2 (mmap encRow rows)] [.box Tp 144 [d0, d1, d2, .map (some m2)], mapC m2 (mmap encRow rows)]) := by
  refine Cal.mkL hi (by kernel_rfl) Tryz.func40 rfl rfl fun hS => ?_
  have hlk := look_rowG rows k
  unfold getG
  dsimp only
  repeat' (first
    | (show WL _ _ _ _ _ _ _; first
      | refine WL.pure rfl rfl rfl rfl ?_
      | refine WL.nil ?_
      | refine WL.load hS rfl rfl (LdOk.box (by repeat (first | exact List.Mem.head _ | apply List.Mem.tail)) rfl) rfl rfl rfl ?_
      | (refine WL.mget hS rfl rfl rfl rfl (.mk' (by repeat (first | exact List.Mem.head _ | apply List.Mem.tail))) hlk rfl rfl rfl ?_)
      | (refine WL.alloc (t := 171) hS rfl rfl rfl rfl rfl rfl ?_; intro w xb hS)
      | (refine WL.store hS rfl rfl rfl (by repeat (first | exact StB.here rfl | apply StB.there)) rfl rfl rfl ?_; intro w hS))
    | (show WC _ _ _ _ _ _; first
      | refine WC.seq ?_
      | refine WC.region ?_
      | refine WC.skip ?_
      | refine WC.ret ?_
      | refine WC.condF rfl (by with_reducible rfl) ?_)
    | refine seqQ_n ?_)
  exact fin2r rfl rfl rfl ⟨rfl, hS.mutLp (by repeat (first | exact Pulls.nil | (apply Pulls.cons; focus (repeat (first | exact Pull.here | apply Pull.there)))))⟩
/-- a key that only the batch has -/
def newG (rows : Rws) (p : List UInt8) (x : List UInt8 × Chg) : Bool := !(mget rows x.1).isSome && !x.2.gone && begG p x.1
def oldG (m : Bch) (k : List UInt8) : Bool := !((mget m k).getD Chg0).gone
/-- a batch's keys that begin so, rising -/
def bkeysG (rows : Rws) (m : Bch) (p : List UInt8) : List (List UInt8) := sortS ((keysG (mmap encRow rows) p).filter (oldG m) ++ (m.filter (newG rows p)).map Prod.fst)
theorem mmap_splitG {β γ : Type} {f : β → γ} {lc : List (List UInt8 × β)} {l1 l2 : List (List UInt8 × γ)} {k : List UInt8} {v : γ} (h : mmap f lc = l1 ++ (k, v) :: l2) : ∃ lc1 o lc2, l1 = mmap f lc1 ∧ v = f o ∧ l2 = mmap f lc2 ∧ lc = lc1 ++ (k, o) :: lc2 := by
  unfold mmap at h
  rw [List.map_eq_append_iff] at h
  obtain ⟨lc1, r, rfl, h1, h2⟩ := h
  rw [List.map_eq_cons_iff] at h2
  obtain ⟨x, lc2, rfl, h3, h4⟩ := h2
  obtain ⟨k', o⟩ := x
  simp only [Prod.mk.injEq] at h3
  obtain ⟨rfl, rfl⟩ := h3
  exact ⟨lc1, o, lc2, h1.symm, rfl, h4.symm, rfl⟩
theorem mmap_appG {β γ : Type} (f : β → γ) (a b : List (List UInt8 × β)) : mmap f a ++ mmap f b = mmap f (a ++ b) := by unfold mmap; rw [List.map_append]
set_option maxHeartbeats 16000000 in
set_option maxRecDepth 100000 in
theorem bkeysG_c {B mb Tp m2 : Nat} {c1 d0 d1 d2 : Value} {rows : Rws} {m : Bch} (p : List UInt8) {w0 : World} (hi : InL w0 [.box B 135 [.pointer (some ⟨Tp, 0, none⟩), c1, .map (some mb)], mapC mb (mmap encChg m), .box Tp 144 [d0, d1, d2, .map (some m2)], mapC m2 (mmap encRow rows)]) (hn : rows.length ≤ 549755813888) (hm : m.length ≤ 549755813888) :
    Cal Tryz.prog 169 [.pointer (some ⟨B, 0, none⟩), str p] w0 (fun v w' => ∃ A cap, v = .slice A (bkeysG rows m p).length cap ∧ MutL w0 w' [.box B 135 [.pointer (some ⟨Tp, 0, none⟩), c1, .map (some mb)], mapC mb (mmap encChg m), .box Tp 144 [d0, d1, d2, .map (some m2)], mapC m2 (mmap encRow rows)] [.box B 135 [.pointer (some ⟨Tp, 0, none⟩), c1, .map (some mb)], mapC mb (mmap encChg m), .box Tp 144 [d0, d1, d2, .map (some m2)], mapC m2 (mmap encRow rows), .own (.slice A (bkeysG rows m p).length cap) 9 1 (bkeysG rows m p).length (strs (bkeysG rows m p))]) := by
  refine Cal.mkL hi (by kernel_rfl) Tryz.func169 rfl rfl fun hS => ?_
  have hkl : (keysG (mmap encRow rows) p).length ≤ 549755813888 := by
    unfold keysG
    rw [sortS_len]
    refine Nat.le_trans (List.length_filter_le _ _) ?_
    rw [List.length_map]
    unfold mmap
    rw [List.length_map]
    exact hn
  have htk := fun (w0 : World) (hi : InL w0 [.box Tp 144 [d0, d1, d2, .map (some m2)], mapC m2 (mmap encRow rows)]) => tkeysG_c p hi (by unfold mmap; rw [List.length_map]; omega)
  unfold bkeysG
  generalize keysG (mmap encRow rows) p = K at *
  repeat' (first
    | (show WL _ _ _ _ _ _ _; first
      | refine WL.pure rfl rfl rfl rfl ?_
      | refine WL.nil ?_
      | refine WL.load hS rfl rfl (LdOk.box (by repeat (first | exact List.Mem.head _ | apply List.Mem.tail)) rfl) rfl rfl rfl ?_
      | (refine WL.slit (t := 29) hS rfl rfl rfl rfl rfl ?_; intro w ob hS; have hS := hS.boxRow (n := 0) (size := 1) .here rfl (Nat.zero_le _))
      | (refine WL.callL (D := [.box Tp 144 [d0, d1, d2, .map (some m2)], mapC m2 (mmap encRow rows)]) hS (by repeat (first | exact Pulls.nil | (apply Pulls.cons; focus (repeat (first | exact Pull.here | apply Pull.there))))) rfl rfl (fun hI => htk _ hI) rfl rfl rfl ?_; rintro v w ⟨AK, capK, rfl, hmu⟩ hS; replace hS := hS _ hmu; clear hmu))
    | (show WC _ _ _ _ _ _; first
      | refine WC.seq ?_
      | refine WC.region ?_
      | refine WC.block ?_
      | refine WC.skip ?_
      | refine WC.condF rfl (by with_reducible rfl) ?_)
    | refine seqQ_n ?_)
  replace hS := hS.droplast2 (D := [.own (.slice (some ⟨ob, 0, none⟩) 0 0) 9 1 0 [], .own (.slice AK K.length capK) 9 1 K.length (strs K), .box B 135 [.pointer (some ⟨Tp, 0, none⟩), c1, .map (some mb)], mapC mb (mmap encChg m), .box Tp 144 [d0, d1, d2, .map (some m2)], mapC m2 (mmap encRow rows)]) (by repeat (first | exact Pulls.nil | (apply Pulls.cons; focus (repeat (first | exact Pull.here | apply Pull.there)))))
  clear htk
  refine WC.loop (σ := Nat × List (List UInt8) × Option Addr × Nat) [0, 1, 21, 22] (fun (k, d, A, cap) => [(5, .slice A d.length cap), (23, .int .i64 (k : Int))])
    (fun (k, d, A, cap) w => k ≤ K.length ∧ d = (K.take k).filter (oldG m) ∧ St w0 (fps [.box B 135 [.pointer (some ⟨Tp, 0, none⟩), c1, .map (some mb)], mapC mb (mmap encChg m), .box Tp 144 [d0, d1, d2, .map (some m2)], mapC m2 (mmap encRow rows)]) w [.own (.slice A d.length cap) 9 1 d.length (strs d), .own (.slice AK K.length capK) 9 1 K.length (strs K), .box B 135 [.pointer (some ⟨Tp, 0, none⟩), c1, .map (some mb)], mapC mb (mmap encChg m), .box Tp 144 [d0, d1, d2, .map (some m2)], mapC m2 (mmap encRow rows)] (ZL w0 [.box B 135 [.pointer (some ⟨Tp, 0, none⟩), c1, .map (some mb)], mapC mb (mmap encChg m), .box Tp 144 [d0, d1, d2, .map (some m2)], mapC m2 (mmap encRow rows)]))
    (fun (k, _) => K.length - k) (0, [], some ⟨ob, 0, none⟩, 0) ⟨Nat.zero_le _, rfl, hS⟩ ⟨rfl, rfl, trivial⟩ ?_
  clear hS
  rintro ⟨k, d, A, cap⟩ g w ⟨hk, hd, hS⟩
  show WC _ _ _ (lf _ [(5, .slice A d.length cap), (23, .int .i64 (k : Int))] _ _) _ _
  have hdl : d.length ≤ k := by rw [hd]; refine Nat.le_trans (List.length_filter_le _ _) ?_; rw [List.length_take]; omega
  have hcap := (hS.own_len (List.Mem.head _)).2.2
  by_cases hlt : k < K.length
  · have hx : (strs K)[k * 1]? = some (str K[k]) := by rw [Nat.mul_one]; exact strs_at hlt
    have hnx : (K.take (k + 1)).filter (oldG m) = d ++ [K[k]].filter (oldG m) := by rw [List.take_succ_eq_append_getElem hlt, List.filter_append, ← hd]
    generalize K[k] = key at *
    have hlk := look_chg1 m key
    have hob : oldG m key = !((mget m key).getD Chg0).gone := rfl
    generalize (mget m key).getD Chg0 = o at *
    obtain ⟨okey, oval, ogone⟩ := o
    obtain ⟨kg, ko, rfl⟩ := hS.own_addr (A := AK) (n := K.length) (by repeat (first | exact List.Mem.head _ | apply List.Mem.tail)) (Nat.lt_of_le_of_lt (Nat.zero_le k) hlt)
    clear hd
    rcases ogone with _ | _
    · have hob : oldG m key = true := hob
      rw [List.filter_cons_of_pos hob, List.filter_nil] at hnx
      repeat' (first
        | (show WL _ _ _ _ _ _ _; first
          | refine WL.pure rfl rfl rfl rfl ?_
          | refine WL.nil ?_
          | refine WL.load hS rfl rfl (LdOk.box (by repeat (first | exact List.Mem.head _ | apply List.Mem.tail)) rfl) rfl rfl rfl ?_
          | refine WL.add rfl rfl rfl (by omega) rfl rfl rfl ?_
          | (refine WL.load hS rfl rfl (LdOk.ownAt (by repeat (first | exact List.Mem.head _ | apply List.Mem.tail)) rfl ⟨_, rfl⟩ hx rfl) rfl rfl rfl ?_)
          | (refine WL.mget hS rfl rfl rfl rfl (.mk' (by repeat (first | exact List.Mem.head _ | apply List.Mem.tail))) hlk rfl rfl rfl ?_)
          | (refine WL.app hS rfl rfl rfl rfl (RdOk.box (by repeat (first | exact List.Mem.head _ | apply List.Mem.tail))) rfl rfl (fun A cap => by repeat (first | exact Repl.here | apply Repl.there)) (by omega) rfl rfl rfl ?_; intro A3 cap3 w hS)
          | refine WL.index rfl rfl rfl rfl (by first | with_reducible assumption | omega) rfl rfl rfl rfl ?_
          | (refine WL.slit hS rfl rfl rfl rfl rfl ?_; intro w b hS))
        | (show WC _ _ _ _ _ _; first
          | refine WC.seq ?_
          | refine WC.region ?_
          | refine WC.block ?_
          | refine WC.skip ?_
          | refine WC.condT rfl (decide_eq_true (by first | with_reducible assumption | omega)) ?_
          | refine WC.condT rfl (by first | (simp; done) | (simp; omega)) ?_)
        | refine seqQ_n ?_
        | refine blkQ_n ?_)
      exact rndQ_n (k + 1, d ++ [key], A3, cap3) ⟨by omega, hnx.symm, by
        have hS := hS.drop
        rw [List.length_append, ← strs_snoc]
        exact hS⟩ (by show K.length - (k + 1) < K.length - k; omega) ⟨by rw [List.length_append]; rfl, vint (by omega), trivial⟩ ⟨rfl, rfl, rfl, rfl, trivial⟩
    · have hob : ¬ oldG m key = true := by rw [hob]; simp
      rw [List.filter_cons_of_neg hob, List.filter_nil, List.append_nil] at hnx
      repeat' (first
        | (show WL _ _ _ _ _ _ _; first
          | refine WL.pure rfl rfl rfl rfl ?_
          | refine WL.nil ?_
          | refine WL.load hS rfl rfl (LdOk.box (by repeat (first | exact List.Mem.head _ | apply List.Mem.tail)) rfl) rfl rfl rfl ?_
          | refine WL.add rfl rfl rfl (by omega) rfl rfl rfl ?_
          | (refine WL.load hS rfl rfl (LdOk.ownAt (by repeat (first | exact List.Mem.head _ | apply List.Mem.tail)) rfl ⟨_, rfl⟩ hx rfl) rfl rfl rfl ?_)
          | (refine WL.mget hS rfl rfl rfl rfl (.mk' (by repeat (first | exact List.Mem.head _ | apply List.Mem.tail))) hlk rfl rfl rfl ?_)
          | refine WL.index rfl rfl rfl rfl (by first | with_reducible assumption | omega) rfl rfl rfl rfl ?_)
        | (show WC _ _ _ _ _ _; first
          | refine WC.seq ?_
          | refine WC.region ?_
          | refine WC.block ?_
          | refine WC.skip ?_
          | refine WC.condT rfl (decide_eq_true (by first | with_reducible assumption | omega)) ?_
          | refine WC.condF rfl (by first | (simp; done) | (simp; omega)) ?_)
        | refine seqQ_n ?_
        | refine blkQ_n ?_)
      exact rndQ_n (k + 1, d, A, cap) ⟨by omega, hnx.symm, hS⟩ (by show K.length - (k + 1) < K.length - k; omega) ⟨rfl, vint (by omega), trivial⟩ ⟨rfl, rfl, rfl, rfl, trivial⟩
  · have hke : k = K.length := by omega
    subst hke
    rw [List.take_length] at hd
    rw [← hd]
    repeat' (first
      | (show WL _ _ _ _ _ _ _; first
        | refine WL.pure rfl rfl rfl rfl ?_
        | refine WL.nil ?_
        | refine WL.load hS rfl rfl (LdOk.box (by repeat (first | exact List.Mem.head _ | apply List.Mem.tail)) rfl) rfl rfl rfl ?_
        | (refine WL.mrange hS rfl rfl rfl (fun r => by repeat (first | exact Repl.here | apply Repl.there)) rfl rfl rfl ?_; intro w r hS))
      | (show WC _ _ _ _ _ _; first
        | refine WC.seq ?_
        | refine WC.region ?_
        | refine WC.block ?_
        | refine WC.exit ?_
        | refine WC.condF rfl (decide_eq_false (by first | with_reducible assumption | omega)) ?_)
      | refine seqQ_n ?_
      | refine seqQ_x ?_
      | refine blkQ_hit rfl ?_
      | refine rndQ_x ?_)
    replace hS := hS.droplast2 (D := [.own (.slice A d.length cap) 9 1 d.length (strs d), rngC mb r (mmap encChg m) (mmap encChg m) none, .box B 135 [.pointer (some ⟨Tp, 0, none⟩), c1, .map (some mb)], .box Tp 144 [d0, d1, d2, .map (some m2)], mapC m2 (mmap encRow rows)]) (by repeat (first | exact Pulls.nil | (apply Pulls.cons; focus (repeat (first | exact Pull.here | apply Pull.there)))))
    refine WC.loop (σ := List (List UInt8) × Bch × Option (List UInt8 × Value) × Option Addr × Nat) [0, 1, 44] (fun (e, left, cur, A, cap) => [(5, .slice A e.length cap)])
      (fun (e, left, cur, A, cap) w => (e ++ (left.filter (newG rows p)).map Prod.fst).Perm (d ++ (m.filter (newG rows p)).map Prod.fst) ∧ e.length + left.length ≤ d.length + m.length ∧ St w0 (fps [.box B 135 [.pointer (some ⟨Tp, 0, none⟩), c1, .map (some mb)], mapC mb (mmap encChg m), .box Tp 144 [d0, d1, d2, .map (some m2)], mapC m2 (mmap encRow rows)]) w [.own (.slice A e.length cap) 9 1 e.length (strs e), rngC mb r (mmap encChg m) (mmap encChg left) cur, .box B 135 [.pointer (some ⟨Tp, 0, none⟩), c1, .map (some mb)], .box Tp 144 [d0, d1, d2, .map (some m2)], mapC m2 (mmap encRow rows)] (ZL w0 [.box B 135 [.pointer (some ⟨Tp, 0, none⟩), c1, .map (some mb)], mapC mb (mmap encChg m), .box Tp 144 [d0, d1, d2, .map (some m2)], mapC m2 (mmap encRow rows)]))
      (fun (e, left, cur, A, cap) => left.length) (d, m, none, A, cap) ⟨.refl _, Nat.le_refl _, hS⟩ ⟨rfl, trivial⟩ ?_
    clear hS
    rintro ⟨e, left, cur, A2, cap2⟩ g2 w ⟨hpm, hel, hS⟩
    show WC _ _ _ (lf _ [(5, .slice A2 e.length cap2)] _ _) _ _
    clear hcap
    have hcap := (hS.own_len (List.Mem.head _)).2.2
    rcases left with _ | ⟨x, left⟩
    · rw [List.filter_nil, List.map_nil, List.append_nil] at hpm
      have hsl : sortS e = sortS (d ++ (m.filter (newG rows p)).map Prod.fst) := sort_perm' hpm
      have hsn : e.length = (sortS (d ++ (m.filter (newG rows p)).map Prod.fst)).length := by rw [← hsl, sortS_len]
      simp only [List.length_nil, Nat.add_zero] at hel
      repeat' (first
        | (show WL _ _ _ _ _ _ _; first
          | refine WL.pure rfl rfl rfl rfl ?_
          | refine WL.nil ?_
          | (refine WL.mnext hS rfl rfl (fun l' p => by repeat (first | exact Repl.here | apply Repl.there)) rfl rfl rfl (fun _ => ?_) (fun l1 k v l2 h => absurd h (by simp [mmap])))
          | (refine WL.callL (D := [.own (.slice A2 e.length cap2) 9 1 e.length (strs e)]) hS (by repeat (first | exact Pulls.nil | (apply Pulls.cons; focus (repeat (first | exact Pull.here | apply Pull.there))))) rfl rfl (fun hI => sort_c hI.head hI.headB (by omega)) rfl rfl rfl ?_; rintro v w ⟨rfl, hm⟩ hS; replace hS := hS _ (.of1 hm); clear hm))
        | (show WC _ _ _ _ _ _; first
          | refine WC.seq ?_
          | refine WC.region ?_
          | refine WC.exit ?_
          | refine WC.ret ?_
          | refine WC.condF rfl (by with_reducible rfl) ?_)
        | refine seqQ_n ?_
        | refine seqQ_x ?_
        | refine blkQ_hit rfl ?_
        | refine rndQ_x ?_)
      have hS := hS.rngEnd (H' := [.own (.slice A2 e.length cap2) 9 1 e.length (strs (sortS e)), mapC mb (mmap encChg m), .box B 135 [.pointer (some ⟨Tp, 0, none⟩), c1, .map (some mb)], .box Tp 144 [d0, d1, d2, .map (some m2)], mapC m2 (mmap encRow rows)]) (by repeat (first | exact Repl.here | apply Repl.there))
      rw [hsl, hsn] at hS
      exact fin1r rfl rfl ⟨A2, cap2, by rw [hsn], hS.mutLp (by repeat (first | exact Pulls.nil | (apply Pulls.cons; focus (repeat (first | exact Pull.here | apply Pull.there)))))⟩
    · repeat' (first
        | (show WL _ _ _ _ _ _ _; first
          | refine WL.pure rfl rfl rfl rfl ?_
          | refine WL.nil ?_
          | refine WL.load hS rfl rfl (LdOk.box (by repeat (first | exact List.Mem.head _ | apply List.Mem.tail)) rfl) rfl rfl rfl ?_
          | (refine WL.mnext hS rfl rfl (fun l' p => by repeat (first | exact Repl.here | apply Repl.there)) rfl rfl rfl (fun h => absurd h (by simp [mmap])) (fun l1 k v l2 hleft w hS => ?_); obtain ⟨lc1, ⟨okey, oval, ogone⟩, lc2, rfl, rfl, rfl, hlc⟩ := mmap_splitG hleft; rw [mmap_appG] at hS; clear hleft; cases hg1 : (mget rows k).isSome <;> cases ogone <;> cases hg3 : begG p k)
          | (refine WL.mentry hS rfl rfl (by repeat (first | exact List.Mem.head _ | apply List.Mem.tail)) rfl rfl rfl ?_)
          | (refine WL.alloc (t := 140) hS rfl rfl rfl rfl rfl rfl ?_; intro w xb hS)
          | (refine WL.callL (D := [.box Tp 144 [d0, d1, d2, .map (some m2)], mapC m2 (mmap encRow rows)]) hS (by repeat (first | exact Pulls.nil | (apply Pulls.cons; focus (repeat (first | exact Pull.here | apply Pull.there))))) rfl rfl (fun hI => tgetG_c k hI) rfl rfl rfl ?_; rintro v w ⟨rfl, hmu⟩ hS; rw [show (getG rows k).2 = _ from hg1]; replace hS := hS _ hmu; clear hmu)
          | (refine WL.calls hS rfl rfl (hasPrefix_c k p _) rfl rfl rfl ?_; rintro v w rfl hS; rw [show decide (k.take p.length = p) = _ from hg3])
          | (refine WL.app hS rfl rfl rfl rfl (RdOk.box (by repeat (first | exact List.Mem.head _ | apply List.Mem.tail))) rfl rfl (fun A cap => by repeat (first | exact Repl.here | apply Repl.there)) (by simp at hel; omega) rfl rfl rfl ?_; intro A3 cap3 w hS)
          | (refine WL.store hS rfl rfl rfl (by repeat (first | exact StB.here rfl | apply StB.there)) rfl rfl rfl ?_; intro w hS)
          | refine WL.skip rfl rfl rfl ?_
          | (refine WL.slit hS rfl rfl rfl rfl rfl ?_; intro w b hS))
        | (show WC _ _ _ _ _ _; first
          | refine WC.seq ?_
          | refine WC.region ?_
          | refine WC.block ?_
          | refine WC.skip ?_
          | refine WC.condT rfl (by with_reducible rfl) ?_
          | refine WC.condF rfl (by with_reducible rfl) ?_)
        | refine seqQ_n ?_
        | refine blkQ_n ?_)
      all_goals
        rw [hlc] at hpm hel
        have hpm2 := ((List.Perm.append_left e (((perm_midG lc1 lc2 _).filter (newG rows p)).map Prod.fst)).symm).trans hpm
        first
          | (rw [List.filter_cons_of_pos (by simp [newG, hg1, hg3])] at hpm2
             exact rndQ_n (e ++ [k], lc1 ++ lc2, some (k, _), A3, cap3) ⟨by rw [List.append_assoc]; exact hpm2, by simp at hel ⊢; omega, by
               rw [List.length_append, ← strs_snoc]
               exact hS.droplast2 (by repeat (first | exact Pulls.nil | (apply Pulls.cons; focus (repeat (first | exact Pull.here | apply Pull.there)))))⟩ (by show (lc1 ++ lc2).length < (x :: left).length; rw [hlc]; simp) ⟨by rw [List.length_append]; rfl, trivial⟩ ⟨rfl, rfl, rfl, trivial⟩)
          | (rw [List.filter_cons_of_neg (by simp [newG, hg1, hg3])] at hpm2
             exact rndQ_n (e, lc1 ++ lc2, some (k, _), A2, cap2) ⟨hpm2, by simp at hel ⊢; omega, hS.droplast2 (by repeat (first | exact Pulls.nil | (apply Pulls.cons; focus (repeat (first | exact Pull.here | apply Pull.there)))))⟩ (by show (lc1 ++ lc2).length < (x :: left).length; rw [hlc]; simp) ⟨rfl, trivial⟩ ⟨rfl, rfl, rfl, trivial⟩)
end Go.Proofs.YtlfhglcccmghlaaGreatDoor

/- What is proved: what the evaluator knows by heart of Batch.Keys. Conditions: none. -/
set_option linter.unusedSimpArgs false
set_option linter.unusedVariables false
namespace Go.Proofs.YtlfhglcccmghlaaGreatDoor
open Go Go.J Go.RowKit
def decMp {α : Type} (dec : Value → Option α) : List (List UInt8 × Value) → Option (List (List UInt8 × α))
  | [] => some []
  | (k, v) :: l => match dec v, decMp dec l with
    | some x, some r => some ((k, x) :: r)
    | _, _ => none
theorem decMp_spec {α : Type} {dec : Value → Option α} {enc : α → Value} {ρ : En} (hd : ∀ v x, dec v = some x → ∀ v', Vr ρ v v' → v' = enc x) : ∀ {m : List (List UInt8 × Value)} {r : List (List UInt8 × α)} {m' : List (List UInt8 × Value)}, decMp dec m = some r → Mr ρ m m' → m' = mmap enc r
  | [], r, m', h, hm => by
    cases h; cases hm; rfl
  | (k, v) :: l, r, m', h, hm => by
    unfold decMp at h
    split at h
    · rename_i x r1 h1 h2
      cases h
      cases hm with
      | cons hv ht =>
        have ih := decMp_spec hd h2 ht
        rw [ih, hd v x h1 _ hv]
        rfl
    · cases h
def decChg : Value → Option Chg
  | .agg ⟨[.string ⟨⟨a⟩⟩, .string ⟨⟨b⟩⟩, .bool c]⟩ => some ⟨a, b, c⟩
  | _ => none
theorem decChg_spec {ρ : En} (v : Value) (x : Chg) (h : decChg v = some x) (v' : Value) (hv : Vr ρ v v') : v' = encChg x := by
  unfold decChg at h
  split at h
  · cases h
    obtain ⟨l', e1, e2⟩ := hv.ag
    rw [e1]
    cases e2 with | cons g1 e2 => cases e2 with | cons g2 e2 => cases e2 with | cons g3 e2 => cases e2; rw [g1.string, g2.string, g3.bool]
  · cases h
def decRow : Value → Option (List UInt8)
  | .agg ⟨[.string ⟨⟨a⟩⟩]⟩ => some a
  | _ => none
theorem decRow_spec {ρ : En} (v : Value) (x : List UInt8) (h : decRow v = some x) (v' : Value) (hv : Vr ρ v v') : v' = encRow x := by
  unfold decRow at h
  split at h
  · cases h
    obtain ⟨l', e1, e2⟩ := hv.ag
    rw [e1]
    cases e2 with | cons g1 e2 => cases e2; rw [g1.string]
  · cases h
def bkE (rows : Rws) (m : Bch) (p : List UInt8) : List (List UInt8) := sortI ((sortI ((rows.map Prod.fst).filter (begG p))).filter (oldG m) ++ (m.filter (newG rows p)).map Prod.fst)
theorem bkE_eq (rows : Rws) (m : Bch) (p : List UInt8) : bkeysG rows m p = bkE rows m p := by
  have e : (mmap encRow rows).map Prod.fst = rows.map Prod.fst := by unfold mmap; rw [List.map_map]; rfl
  unfold bkeysG bkE keysG sortS
  rw [e, sortI_eq, sortI_eq]
def bkeysB (H : AH) : List Value → Rs (Value × AH)
  | [.pointer (some ⟨B, o, none⟩), .string ⟨⟨p⟩⟩] => match Nat.beq o 0, H.get B with
    | true, some (.box ty [.pointer (some ⟨Tp, o2, none⟩), c1, .map (some mb)]) => match H.get Tp, H.get mb with
      | some (.box ty2 [d0, d1, d2, .map (some m2)]), some (.mapS ops) => match H.get m2 with
        | some (.mapS rows) => match decMp decChg ops, decMp decRow rows with
          | some m, some r => match Nat.beq o2 0 && Nat.beq ty 135 && Nat.beq ty2 144 && okM ops && okM rows && !Nat.beq B Tp && !Nat.beq mb m2 with
            | true => .ok (rowRes ⟨H.t, H.nx, [B, mb, Tp, m2] ++ H.wr⟩ 9 (strs (bkE r m p)))
            | false => .no []
          | _, _ => .no []
        | _ => .no []
      | _, _ => .no []
    | _, _ => .no []
  | _ => .no []
theorem bkeysB_ok {H H' : AH} {args args' : List Value} {v : Value} {ρ : En} {w0 w : World} (h : bkeysB H args = .ok (v, H')) (ha : Vrs ρ args args') (hR : Rl ρ H w0 w) :
    Cal Tryz.prog 169 args' w fun v' w' => ∃ ρ', ρ.le ρ' ∧ Vr ρ' v v' ∧ Rl ρ' H' w0 w' ∧ Frm ρ H w H' w' := by
  unfold bkeysB at h
  split at h
  · rename_i B o p
    split at h
    · rename_i ty Tp o2 c1 mb ho hB
      split at h
      · rename_i ty2 d0 d1 d2 m2 ops hT hmb
        split at h
        · rename_i rows hm2
          split at h
          · rename_i m r hdm hdr
            split at h
            · rename_i hk
              simp only [Bool.and_eq_true, Bool.not_eq_true'] at hk
              obtain ⟨⟨⟨⟨⟨⟨k1, k2⟩, k3⟩, k4⟩, k5⟩, k6⟩, k7⟩ := hk
              have := Nat.eq_of_beq_eq_true ho; subst this
              have := Nat.eq_of_beq_eq_true k1; subst this
              have := Nat.eq_of_beq_eq_true k2; subst this
              have := Nat.eq_of_beq_eq_true k3; subst this
              have hres := Rs.ok.inj h
              have n1 : B ≠ Tp := fun e => by subst e; simp at k6
              have n2 : mb ≠ m2 := fun e => by subst e; simp at k7
              have n3 : B ≠ mb := fun e => by subst e; rw [hB] at hmb; cases hmb
              have n4 : B ≠ m2 := fun e => by subst e; rw [hB] at hm2; cases hm2
              have n5 : mb ≠ Tp := fun e => by subst e; rw [hT] at hmb; cases hmb
              have n6 : Tp ≠ m2 := fun e => by subst e; rw [hT] at hm2; cases hm2
              obtain ⟨v1, v2, rfl, hv1, hv2⟩ : ∃ v1 v2, args' = [v1, v2] ∧ Vr ρ (.pointer (some ⟨B, 0, none⟩)) v1 ∧ Vr ρ (.string ⟨⟨p⟩⟩) v2 := by
                cases ha with | cons h1 ha => cases ha with | cons h2 ha => cases ha; exact ⟨_, _, rfl, h1, h2⟩
              obtain ⟨LB, hLB, _, rfl⟩ := hv1.ptrS
              have hLB : ρ B = some LB := hLB
              rw [hv2.string]
              obtain ⟨_, s1, s2, cs, r1, r2⟩ := hR.at hB hLB
              obtain ⟨x1, x2, x3, rfl, y1, y3⟩ : ∃ x1 x2 x3, cs = [x1, x2, x3] ∧ Vr ρ (.pointer (some ⟨Tp, 0, none⟩)) x1 ∧ Vr ρ (.map (some mb)) x3 := by
                have r := r1
                cases r with | cons h1 r => cases r with | cons h2 r => cases r with | cons h3 r => cases r; exact ⟨_, _, _, rfl, h1, h3⟩
              obtain ⟨LT, hLT, _, rfl⟩ := y1.ptrS
              have hLT : ρ Tp = some LT := hLT
              obtain ⟨Lb, hLb, rfl⟩ := y3.mapS
              obtain ⟨_, t1, t2, ds, u1, u2⟩ := hR.at hT hLT
              obtain ⟨z1, z2, z3, z4, rfl, y4⟩ : ∃ z1 z2 z3 z4, ds = [z1, z2, z3, z4] ∧ Vr ρ (.map (some m2)) z4 := by
                have r := u1
                cases r with | cons h1 r => cases r with | cons h2 r => cases r with | cons h3 r => cases r with | cons h4 r => cases r; exact ⟨_, _, _, _, rfl, h4⟩
              obtain ⟨L2, hL2, rfl⟩ := y4.mapS
              obtain ⟨_, ops', e1, e2⟩ := hR.at hmb hLb
              obtain ⟨_, rows', f1, f2⟩ := hR.at hm2 hL2
              obtain ⟨b1, b2⟩ := okM_spec k4 e1
              obtain ⟨b3, b4⟩ := okM_spec k5 f1
              have em := decMp_spec (enc := encChg) decChg_spec hdm e1
              have er := decMp_spec (enc := encRow) decRow_spec hdr f1
              subst em er
              have hz : LB.sh + 0 = 0 := by omega
              have hzT : LT.sh + 0 = 0 := by omega
              have hch : ChR ρ H w [B, mb, Tp, m2] [.box LB.blk 135 [.pointer (some ⟨LT.blk, LT.sh + 0, none⟩), x2, .map (some Lb.blk)], mapC Lb.blk (mmap encChg m), .box LT.blk 144 [z1, z2, z3, .map (some L2.blk)], mapC L2.blk (mmap encRow r)] :=
                .box hB hLB s1 s2 r1 r2 (by simp [n1, n3, n4]) (.map hmb hLb e1 ⟨e2, MapIs.local⟩ (by simp [n5, n2]) (.box hT hLT t1 t2 u1 u2 (by simp [n6]) (.map hm2 hL2 f1 ⟨f2, MapIs.local⟩ (by simp) .nil)))
              have hin := hch.inL hR
              show Cal _ _ [.pointer (some ⟨LB.blk, LB.sh + 0, none⟩), _] _ _
              rw [hzT] at hin hch
              rw [hz]
              have l1 : r.length ≤ 549755813888 := by unfold mmap at b3; rw [List.length_map] at b3; omega
              have l2 : m.length ≤ 549755813888 := by unfold mmap at b1; rw [List.length_map] at b1; omega
              refine (bkeysG_c p hin l1 l2).mono fun v' w' ⟨A, cap, ev, hmut⟩ => ?_
              subst ev
              rw [bkE_eq] at hmut ⊢
              have hlen := strs_len (bkE r m p)
              rw [← hlen] at hmut ⊢
              have hfin := hch.row hR hmut (strs_clo _)
              rw [hres] at hfin
              exact hfin
            · cases h
          · cases h
        · cases h
      · cases h
    · cases h
  · cases h
theorem bkeysB_wr {H H' : AH} {args : List Value} {v : Value} (h : bkeysB H args = .ok (v, H')) : ∀ b ∈ H.wr, b ∈ H'.wr := by
  unfold bkeysB at h
  repeat' split at h
  all_goals first
    | (cases h; done)
    | (have e := congrArg Prod.snd (Rs.ok.inj h)
       simp only at e
       rw [← e]; exact fun b hb => rowRes_wr b (List.mem_append_right _ hb))
end Go.Proofs.YtlfhglcccmghlaaGreatDoor

/- What is proved: how many bytes a volume's files have, over any disk; the same for the evaluator. Conditions: paths and sums of bounded length. -/
set_option linter.unusedSimpArgs false
set_option linter.unusedVariables false
namespace Go.Proofs.YtlfhglcccmghlaaGreatDoor
open Go Go.J Go.RowKit
/-- how many bytes the files of a volume have -/
def usedL (v : List UInt8) : List (List UInt8 × It) → Nat
  | [] => 0
  | x :: l => (if volE x.1 = v then x.2.data.length else 0) + usedL v l
theorem usedL_mid (v : List UInt8) (x : List UInt8 × It) : ∀ (l1 l2 : List (List UInt8 × It)), usedL v (l1 ++ x :: l2) = (if volE x.1 = v then x.2.data.length else 0) + usedL v (l1 ++ l2)
  | [], l2 => rfl
  | y :: l1, l2 => by
    show (if volE y.1 = v then y.2.data.length else 0) + usedL v (l1 ++ x :: l2) = _ + ((if volE y.1 = v then y.2.data.length else 0) + usedL v (l1 ++ l2))
    rw [usedL_mid v x l1 l2]; omega
theorem mmap_mid {β γ : Type} {f : β → γ} {L : List (List UInt8 × β)} {l1 l2 : List (List UInt8 × γ)} {k : List UInt8} {v : γ} (h : mmap f L = l1 ++ (k, v) :: l2) : ∃ L1 x L2, L = L1 ++ (k, x) :: L2 ∧ v = f x ∧ l1 ++ l2 = mmap f (L1 ++ L2) := by
  unfold mmap at *
  obtain ⟨L1, R, rfl, rfl, h2⟩ := List.map_eq_append_iff.1 h
  obtain ⟨x, L2, rfl, hx, rfl⟩ := List.map_eq_cons_iff.1 h2
  obtain ⟨a, y⟩ := x
  cases hx
  exact ⟨L1, y, L2, rfl, rfl, by rw [List.map_append]⟩
set_option maxHeartbeats 16000000 in
set_option maxRecDepth 100000 in
theorem dusedG_c {q mb : Nat} {c1 c2 c3 c4 c5 : Value} {items : List (List UInt8 × It)} (vol : List UInt8) {w0 : World} (hi : InL w0 [.box q 62 [.map (some mb), c1, c2, c3, c4, c5], mapC mb (mmap encIt items)]) (hkk : ∀ x ∈ items, x.1.length ≤ 1099511627) (hb : usedL vol items ≤ 4611686018427387904) :
    Cal Tryz.prog 246 [.pointer (some ⟨q, 0, none⟩), str vol] w0 (fun v w' => v = .int .i64 (usedL vol items : Int) ∧ MutL w0 w' [.box q 62 [.map (some mb), c1, c2, c3, c4, c5], mapC mb (mmap encIt items)] [.box q 62 [.map (some mb), c1, c2, c3, c4, c5], mapC mb (mmap encIt items)]) := by
  refine Cal.mkL hi (by kernel_rfl) Tryz.func246 rfl rfl fun hS => ?_
  obtain ⟨U, hU⟩ : ∃ U, U = usedL vol items := ⟨_, rfl⟩
  rw [← hU] at hb ⊢
  repeat' (first
    | (show WL _ _ _ _ _ _ _; first
      | refine WL.pure rfl rfl rfl rfl ?_
      | refine WL.nil ?_
      | refine WL.load hS rfl rfl (LdOk.box (by repeat (first | exact List.Mem.head _ | apply List.Mem.tail)) rfl) rfl rfl rfl ?_
      | refine WL.add rfl rfl rfl (by omega) rfl rfl rfl ?_
      | refine WL.sub rfl rfl rfl (by omega) rfl rfl rfl ?_
      | (refine WL.mrange hS rfl rfl rfl (fun r => by repeat (first | exact Repl.here | apply Repl.there)) rfl rfl rfl ?_; intro w r hS)
      | refine WL.conv64 rfl rfl rfl (by omega) rfl rfl rfl ?_
      | refine WL.cat rfl rfl rfl (by omega) rfl rfl rfl ?_
      | refine WL.idxS rfl rfl rfl rfl (by with_reducible assumption) rfl rfl rfl ?_
      | refine WL.lowS rfl rfl rfl rfl (by omega) rfl rfl rfl ?_
      | refine WL.highS rfl rfl rfl rfl (by omega) rfl rfl rfl ?_
      | refine WL.midS rfl rfl rfl rfl rfl (by omega) (by omega) rfl rfl rfl ?_
      | refine WL.maxI rfl rfl rfl rfl rfl rfl ?_
      | refine WL.minI rfl rfl rfl rfl rfl rfl ?_
      | (refine WL.store hS rfl rfl rfl (by repeat (first | exact StB.here rfl | apply StB.there)) rfl rfl rfl ?_; intro w hS)
      | (refine WL.box hS rfl rfl rfl rfl rfl ?_; intro w b hS)
      | (refine WL.alloc hS rfl rfl rfl rfl rfl rfl ?_; intro w b hS)
      | refine WL.index rfl rfl rfl rfl (by first | with_reducible assumption | omega) rfl rfl rfl rfl ?_
      | refine WL.index (j := 0) rfl rfl rfl rfl (by omega) rfl rfl rfl rfl ?_
      | refine WL.indexArr rfl rfl rfl rfl (by decide) rfl rfl rfl ?_
      | refine WL.skip rfl rfl rfl ?_
      | refine WL.build rfl rfl rfl rfl rfl ?_
      | (refine WL.slit hS rfl rfl rfl rfl rfl ?_; intro w b hS)
      | refine WL.eqS rfl rfl rfl rfl (by kernel_rfl) rfl rfl rfl ?_
      | refine WL.neS rfl rfl rfl rfl (by kernel_rfl) rfl rfl rfl ?_
      | ((fail_if_success (refine WL.wanted rfl ?_)); refine WL.guard rfl rfl rfl (fun h => ?_) (fun h => ?_) <;> (try simp only [Classical.not_not, Bool.not_eq_true', Bool.not_eq_false', Bool.not_eq_eq_eq_not, Bool.not_true, Bool.not_false, beq_iff_eq, beq_eq_false_iff_ne, ne_eq, decide_eq_decide, decide_eq_true_eq, decide_eq_false_iff_not, Bool.and_eq_true, Bool.or_eq_true, Bool.and_eq_false_iff, Bool.or_eq_false_iff] at h) <;> (try (exfalso; first | omega | contradiction))))
    | (show WC _ _ _ _ _ _; first
      | refine WC.seq ?_
      | refine WC.region ?_
      | refine WC.block ?_
      | refine WC.skip ?_
      | refine WC.exit ?_
      | refine WC.ret ?_
      | refine WC.condT rfl (by with_reducible rfl) ?_
      | refine WC.condF rfl (by with_reducible rfl) ?_
      | refine WC.condT rfl (by decide) ?_
      | refine WC.condF rfl (by decide) ?_
      | refine WC.condT rfl (decide_eq_true (by first | with_reducible assumption | omega)) ?_
      | refine WC.condF rfl (decide_eq_false (by first | with_reducible assumption | omega)) ?_
      | refine WC.condT rfl (by first | (simp; done) | (simp; omega)) ?_
      | refine WC.condF rfl (by first | (simp; done) | (simp; omega)) ?_
      | (refine WC.cond rfl (fun h => ?_) (fun h => ?_) <;> (try simp only [Classical.not_not, Bool.not_eq_true', Bool.not_eq_false', Bool.not_eq_eq_eq_not, Bool.not_true, Bool.not_false, beq_iff_eq, beq_eq_false_iff_ne, ne_eq, decide_eq_decide, decide_eq_true_eq, decide_eq_false_iff_not, Bool.and_eq_true, Bool.or_eq_true, Bool.and_eq_false_iff, Bool.or_eq_false_iff] at h) <;> (try (exfalso; first | omega | contradiction))))
    | (show WD _ _ _ _ _ _ _ _ _; first
      | refine WD.pure rfl rfl rfl rfl rfl ?_
      | refine WD.nil ?_
      | refine WD.load rfl rfl (LdOk.box (by repeat (first | exact List.Mem.head _ | apply List.Mem.tail)) rfl) rfl rfl rfl rfl ?_
      | refine WD.add rfl rfl rfl (by omega) rfl rfl rfl rfl ?_
      | refine WD.sub rfl rfl rfl (by omega) rfl rfl rfl rfl ?_
      | refine WD.conv64 rfl rfl rfl (by omega) rfl rfl rfl rfl ?_
      | refine WD.index rfl rfl rfl rfl (by first | with_reducible assumption | omega) rfl rfl rfl rfl rfl ?_
      | refine WD.index (j := 0) rfl rfl rfl rfl (by omega) rfl rfl rfl rfl rfl ?_
      | refine WD.indexArr rfl rfl rfl rfl (by decide) rfl rfl rfl rfl ?_
      | refine WD.pass rfl rfl rfl rfl ?_
      | refine WD.skip rfl rfl rfl rfl rfl (hM.ss hS) ?_
      | refine WD.build rfl rfl rfl rfl rfl rfl ?_
      | (refine WD.slit hS hM rfl rfl rfl rfl rfl rfl rfl ?_; intro w b hS hM)
      | refine WD.eqS rfl rfl rfl rfl (by kernel_rfl) rfl rfl rfl rfl ?_
      | refine WD.neS rfl rfl rfl rfl (by kernel_rfl) rfl rfl rfl rfl ?_
      | (refine WD.box hS hM rfl rfl rfl rfl rfl rfl rfl ?_; intro w b hS hM)
      | ((fail_if_success (refine WD.wanted rfl ?_)); refine WD.guard rfl rfl rfl (fun h => ?_) (fun h => ?_) <;> (try simp only [Classical.not_not, Bool.not_eq_true', Bool.not_eq_false', Bool.not_eq_eq_eq_not, Bool.not_true, Bool.not_false, beq_iff_eq, beq_eq_false_iff_ne, ne_eq, decide_eq_decide, decide_eq_true_eq, decide_eq_false_iff_not, Bool.and_eq_true, Bool.or_eq_true, Bool.and_eq_false_iff, Bool.or_eq_false_iff] at h) <;> (try (exfalso; first | omega | contradiction))))
    | refine seqQ_n ?_
    | refine blkQ_n ?_
    | refine seqQ_x ?_
    | refine seqQ_r ?_
    | refine blkQ_r ?_
    | refine blkQ_hit rfl ?_
    | refine blkQ_miss rfl ?_
    | refine rndQ_x ?_
    | refine rndQ_r ?_
    | refine rdQ_n ?_
    | refine rdQ_x ?_
    | refine rdQ_r ?_
    | refine cutQ_n ?_
    | refine cutQ_r ?_
    | refine cutQ_miss rfl ?_
    | refine endQ_x ?_
    | refine endQ_r ?_)
  replace hS := hS.droplast2 (D := [rngC mb r (mmap encIt items) (mmap encIt items) none, .box q 62 [.map (some mb), c1, c2, c3, c4, c5]]) (by repeat (first | exact Pulls.nil | (apply Pulls.cons; focus (repeat (first | exact Pull.here | apply Pull.there)))))
  refine WC.loop (σ := Nat × List (List UInt8 × It) × Option (List UInt8 × Value)) [1, 14] (fun (n, L, cur) => [(5, .int .i64 (n : Int))])
    (fun (n, L, cur) w => (n + usedL vol L = U ∧ ∀ x ∈ L, x.1.length ≤ 1099511627) ∧ St w0 (fps [.box q 62 [.map (some mb), c1, c2, c3, c4, c5], mapC mb (mmap encIt items)]) w [rngC mb r (mmap encIt items) (mmap encIt L) cur, .box q 62 [.map (some mb), c1, c2, c3, c4, c5]] (ZL w0 [.box q 62 [.map (some mb), c1, c2, c3, c4, c5], mapC mb (mmap encIt items)]))
    (fun (n, L, cur) => L.length) (0, items, none) ⟨⟨by omega, hkk⟩, hS⟩ ⟨rfl, trivial⟩ ?_
  clear hS
  rintro ⟨n, L, cur⟩ g w ⟨⟨hsum, hlk⟩, hS⟩
  show WC _ _ _ (lf _ [(5, .int .i64 (n : Int))] _ _) _ _
  rcases L with _ | ⟨x, L⟩
  · have hsum : n = U := hsum
    subst hsum
    replace hS : St w0 (fps [.box q 62 [.map (some mb), c1, c2, c3, c4, c5], mapC mb (mmap encIt items)]) w [rngC mb r (mmap encIt items) [] cur, .box q 62 [.map (some mb), c1, c2, c3, c4, c5]] (ZL w0 [.box q 62 [.map (some mb), c1, c2, c3, c4, c5], mapC mb (mmap encIt items)]) := hS
    repeat' (first
      | (show WL _ _ _ _ _ _ _; first
        | refine WL.pure rfl rfl rfl rfl ?_
        | refine WL.nil ?_
        | refine WL.load hS rfl rfl (LdOk.box (by repeat (first | exact List.Mem.head _ | apply List.Mem.tail)) rfl) rfl rfl rfl ?_
        | refine WL.add rfl rfl rfl (by omega) rfl rfl rfl ?_
        | refine WL.sub rfl rfl rfl (by omega) rfl rfl rfl ?_
        | (refine WL.mnext hS rfl rfl (fun l' p => by repeat (first | exact Repl.here | apply Repl.there)) rfl rfl rfl (fun _ => ?_) (fun l1 k v l2 h => absurd h (by simp)))
        | refine WL.conv64 rfl rfl rfl (by omega) rfl rfl rfl ?_
        | refine WL.cat rfl rfl rfl (by omega) rfl rfl rfl ?_
        | refine WL.idxS rfl rfl rfl rfl (by with_reducible assumption) rfl rfl rfl ?_
        | refine WL.lowS rfl rfl rfl rfl (by omega) rfl rfl rfl ?_
        | refine WL.highS rfl rfl rfl rfl (by omega) rfl rfl rfl ?_
        | refine WL.midS rfl rfl rfl rfl rfl (by omega) (by omega) rfl rfl rfl ?_
        | refine WL.maxI rfl rfl rfl rfl rfl rfl ?_
        | refine WL.minI rfl rfl rfl rfl rfl rfl ?_
        | (refine WL.store hS rfl rfl rfl (by repeat (first | exact StB.here rfl | apply StB.there)) rfl rfl rfl ?_; intro w hS)
        | (refine WL.box hS rfl rfl rfl rfl rfl ?_; intro w b hS)
        | (refine WL.alloc hS rfl rfl rfl rfl rfl rfl ?_; intro w b hS)
        | refine WL.index rfl rfl rfl rfl (by first | with_reducible assumption | omega) rfl rfl rfl rfl ?_
        | refine WL.index (j := 0) rfl rfl rfl rfl (by omega) rfl rfl rfl rfl ?_
        | refine WL.indexArr rfl rfl rfl rfl (by decide) rfl rfl rfl ?_
        | refine WL.skip rfl rfl rfl ?_
        | refine WL.build rfl rfl rfl rfl rfl ?_
        | (refine WL.slit hS rfl rfl rfl rfl rfl ?_; intro w b hS)
        | refine WL.eqS rfl rfl rfl rfl (by kernel_rfl) rfl rfl rfl ?_
        | refine WL.neS rfl rfl rfl rfl (by kernel_rfl) rfl rfl rfl ?_
        | ((fail_if_success (refine WL.wanted rfl ?_)); refine WL.guard rfl rfl rfl (fun h => ?_) (fun h => ?_) <;> (try simp only [Classical.not_not, Bool.not_eq_true', Bool.not_eq_false', Bool.not_eq_eq_eq_not, Bool.not_true, Bool.not_false, beq_iff_eq, beq_eq_false_iff_ne, ne_eq, decide_eq_decide, decide_eq_true_eq, decide_eq_false_iff_not, Bool.and_eq_true, Bool.or_eq_true, Bool.and_eq_false_iff, Bool.or_eq_false_iff] at h) <;> (try (exfalso; first | omega | contradiction))))
      | (show WC _ _ _ _ _ _; first
        | refine WC.seq ?_
        | refine WC.region ?_
        | refine WC.block ?_
        | refine WC.skip ?_
        | refine WC.exit ?_
        | refine WC.ret ?_
        | refine WC.condT rfl (by with_reducible rfl) ?_
        | refine WC.condF rfl (by with_reducible rfl) ?_
        | refine WC.condT rfl (by decide) ?_
        | refine WC.condF rfl (by decide) ?_
        | refine WC.condT rfl (decide_eq_true (by first | with_reducible assumption | omega)) ?_
        | refine WC.condF rfl (decide_eq_false (by first | with_reducible assumption | omega)) ?_
        | refine WC.condT rfl (by first | (simp; done) | (simp; omega)) ?_
        | refine WC.condF rfl (by first | (simp; done) | (simp; omega)) ?_
        | (refine WC.cond rfl (fun h => ?_) (fun h => ?_) <;> (try simp only [Classical.not_not, Bool.not_eq_true', Bool.not_eq_false', Bool.not_eq_eq_eq_not, Bool.not_true, Bool.not_false, beq_iff_eq, beq_eq_false_iff_ne, ne_eq, decide_eq_decide, decide_eq_true_eq, decide_eq_false_iff_not, Bool.and_eq_true, Bool.or_eq_true, Bool.and_eq_false_iff, Bool.or_eq_false_iff] at h) <;> (try (exfalso; first | omega | contradiction))))
      | (show WD _ _ _ _ _ _ _ _ _; first
        | refine WD.pure rfl rfl rfl rfl rfl ?_
        | refine WD.nil ?_
        | refine WD.load rfl rfl (LdOk.box (by repeat (first | exact List.Mem.head _ | apply List.Mem.tail)) rfl) rfl rfl rfl rfl ?_
        | refine WD.add rfl rfl rfl (by omega) rfl rfl rfl rfl ?_
        | refine WD.sub rfl rfl rfl (by omega) rfl rfl rfl rfl ?_
        | refine WD.conv64 rfl rfl rfl (by omega) rfl rfl rfl rfl ?_
        | refine WD.index rfl rfl rfl rfl (by first | with_reducible assumption | omega) rfl rfl rfl rfl rfl ?_
        | refine WD.index (j := 0) rfl rfl rfl rfl (by omega) rfl rfl rfl rfl rfl ?_
        | refine WD.indexArr rfl rfl rfl rfl (by decide) rfl rfl rfl rfl ?_
        | refine WD.pass rfl rfl rfl rfl ?_
        | refine WD.skip rfl rfl rfl rfl rfl (hM.ss hS) ?_
        | refine WD.build rfl rfl rfl rfl rfl rfl ?_
        | (refine WD.slit hS hM rfl rfl rfl rfl rfl rfl rfl ?_; intro w b hS hM)
        | refine WD.eqS rfl rfl rfl rfl (by kernel_rfl) rfl rfl rfl rfl ?_
        | refine WD.neS rfl rfl rfl rfl (by kernel_rfl) rfl rfl rfl rfl ?_
        | (refine WD.box hS hM rfl rfl rfl rfl rfl rfl rfl ?_; intro w b hS hM)
        | ((fail_if_success (refine WD.wanted rfl ?_)); refine WD.guard rfl rfl rfl (fun h => ?_) (fun h => ?_) <;> (try simp only [Classical.not_not, Bool.not_eq_true', Bool.not_eq_false', Bool.not_eq_eq_eq_not, Bool.not_true, Bool.not_false, beq_iff_eq, beq_eq_false_iff_ne, ne_eq, decide_eq_decide, decide_eq_true_eq, decide_eq_false_iff_not, Bool.and_eq_true, Bool.or_eq_true, Bool.and_eq_false_iff, Bool.or_eq_false_iff] at h) <;> (try (exfalso; first | omega | contradiction))))
      | refine seqQ_n ?_
      | refine blkQ_n ?_
      | refine seqQ_x ?_
      | refine seqQ_r ?_
      | refine blkQ_r ?_
      | refine blkQ_hit rfl ?_
      | refine blkQ_miss rfl ?_
      | refine rndQ_x ?_
      | refine rndQ_r ?_
      | refine rdQ_n ?_
      | refine rdQ_x ?_
      | refine rdQ_r ?_
      | refine cutQ_n ?_
      | refine cutQ_r ?_
      | refine cutQ_miss rfl ?_
      | refine endQ_x ?_
      | refine endQ_r ?_)
    have hS := hS.rngEnd (H' := [mapC mb (mmap encIt items), .box q 62 [.map (some mb), c1, c2, c3, c4, c5]]) (by repeat (first | exact Repl.here | apply Repl.there))
    exact fin1r rfl rfl ⟨rfl, hS.mutLp (by repeat (first | exact Pulls.nil | (apply Pulls.cons; focus (repeat (first | exact Pull.here | apply Pull.there)))))⟩
  · obtain ⟨X, hX⟩ : ∃ X, X = x :: L := ⟨_, rfl⟩
    have hXl : X.length = L.length + 1 := by rw [hX]; rfl
    rw [← hX] at hsum hlk hS
    have hne : ¬ mmap encIt X = [] := by rw [hX]; simp [mmap]
    clear hX
    repeat' (first
      | (show WL _ _ _ _ _ _ _; first
        | refine WL.pure rfl rfl rfl rfl ?_
        | refine WL.nil ?_
        | refine WL.load hS rfl rfl (LdOk.box (by repeat (first | exact List.Mem.head _ | apply List.Mem.tail)) rfl) rfl rfl rfl ?_
        | refine WL.add rfl rfl rfl (by omega) rfl rfl rfl ?_
        | refine WL.sub rfl rfl rfl (by omega) rfl rfl rfl ?_
        | (refine WL.mnext hS rfl rfl (fun l' p => by repeat (first | exact Repl.here | apply Repl.there)) rfl rfl rfl (fun h => absurd h hne) (fun l1 k v l2 hleft w hS => ?_); obtain ⟨L1, it, L2, rfl, rfl, hl12⟩ := mmap_mid hleft; rw [hl12] at hS; have hkl : k.length ≤ 1099511627 := hlk (k, it) (by simp); rw [usedL_mid] at hsum; obtain ⟨dir, dat, kept, loose, anew, stamp⟩ := it; dsimp only at hsum)
        | (refine WL.mentry hS rfl rfl (by repeat (first | exact List.Mem.head _ | apply List.Mem.tail)) rfl rfl rfl ?_)
        | (refine WL.calls hS rfl rfl (volume_c k _ (by omega)) rfl rfl rfl ?_; rintro v w rfl hS)
        | (refine WL.add (a := (n : Int)) (b := (dat.length : Int)) rfl rfl rfl (by rw [if_pos (by assumption)] at hsum; omega) rfl rfl rfl ?_)
        | refine WL.conv64 rfl rfl rfl (by omega) rfl rfl rfl ?_
        | refine WL.cat rfl rfl rfl (by omega) rfl rfl rfl ?_
        | refine WL.idxS rfl rfl rfl rfl (by with_reducible assumption) rfl rfl rfl ?_
        | refine WL.lowS rfl rfl rfl rfl (by omega) rfl rfl rfl ?_
        | refine WL.highS rfl rfl rfl rfl (by omega) rfl rfl rfl ?_
        | refine WL.midS rfl rfl rfl rfl rfl (by omega) (by omega) rfl rfl rfl ?_
        | refine WL.maxI rfl rfl rfl rfl rfl rfl ?_
        | refine WL.minI rfl rfl rfl rfl rfl rfl ?_
        | (refine WL.store hS rfl rfl rfl (by repeat (first | exact StB.here rfl | apply StB.there)) rfl rfl rfl ?_; intro w hS)
        | (refine WL.box hS rfl rfl rfl rfl rfl ?_; intro w b hS)
        | (refine WL.alloc hS rfl rfl rfl rfl rfl rfl ?_; intro w b hS)
        | refine WL.index rfl rfl rfl rfl (by first | with_reducible assumption | omega) rfl rfl rfl rfl ?_
        | refine WL.index (j := 0) rfl rfl rfl rfl (by omega) rfl rfl rfl rfl ?_
        | refine WL.indexArr rfl rfl rfl rfl (by decide) rfl rfl rfl ?_
        | refine WL.skip rfl rfl rfl ?_
        | refine WL.build rfl rfl rfl rfl rfl ?_
        | (refine WL.slit hS rfl rfl rfl rfl rfl ?_; intro w b hS)
        | refine WL.eqS rfl rfl rfl rfl (by kernel_rfl) rfl rfl rfl ?_
        | refine WL.neS rfl rfl rfl rfl (by kernel_rfl) rfl rfl rfl ?_
        | ((fail_if_success (refine WL.wanted rfl ?_)); refine WL.guard rfl rfl rfl (fun h => ?_) (fun h => ?_) <;> (try simp only [Classical.not_not, Bool.not_eq_true', Bool.not_eq_false', Bool.not_eq_eq_eq_not, Bool.not_true, Bool.not_false, beq_iff_eq, beq_eq_false_iff_ne, ne_eq, decide_eq_decide, decide_eq_true_eq, decide_eq_false_iff_not, Bool.and_eq_true, Bool.or_eq_true, Bool.and_eq_false_iff, Bool.or_eq_false_iff] at h) <;> (try (exfalso; first | omega | contradiction))))
      | (show WC _ _ _ _ _ _; first
        | refine WC.seq ?_
        | refine WC.region ?_
        | refine WC.block ?_
        | refine WC.skip ?_
        | refine WC.exit ?_
        | refine WC.ret ?_
        | refine WC.condT rfl (by with_reducible rfl) ?_
        | refine WC.condF rfl (by with_reducible rfl) ?_
        | refine WC.condT rfl (by decide) ?_
        | refine WC.condF rfl (by decide) ?_
        | refine WC.condT rfl (decide_eq_true (by first | with_reducible assumption | omega)) ?_
        | refine WC.condF rfl (decide_eq_false (by first | with_reducible assumption | omega)) ?_
        | refine WC.condT rfl (by first | (simp; done) | (simp; omega)) ?_
        | refine WC.condF rfl (by first | (simp; done) | (simp; omega)) ?_
        | (refine WC.cond rfl (fun h => ?_) (fun h => ?_) <;> (try simp only [Classical.not_not, Bool.not_eq_true', Bool.not_eq_false', Bool.not_eq_eq_eq_not, Bool.not_true, Bool.not_false, beq_iff_eq, beq_eq_false_iff_ne, ne_eq, decide_eq_decide, decide_eq_true_eq, decide_eq_false_iff_not, Bool.and_eq_true, Bool.or_eq_true, Bool.and_eq_false_iff, Bool.or_eq_false_iff] at h) <;> (try (exfalso; first | omega | contradiction))))
      | (show WD _ _ _ _ _ _ _ _ _; first
        | refine WD.pure rfl rfl rfl rfl rfl ?_
        | refine WD.nil ?_
        | refine WD.load rfl rfl (LdOk.box (by repeat (first | exact List.Mem.head _ | apply List.Mem.tail)) rfl) rfl rfl rfl rfl ?_
        | refine WD.add rfl rfl rfl (by omega) rfl rfl rfl rfl ?_
        | refine WD.sub rfl rfl rfl (by omega) rfl rfl rfl rfl ?_
        | refine WD.conv64 rfl rfl rfl (by omega) rfl rfl rfl rfl ?_
        | refine WD.index rfl rfl rfl rfl (by first | with_reducible assumption | omega) rfl rfl rfl rfl rfl ?_
        | refine WD.index (j := 0) rfl rfl rfl rfl (by omega) rfl rfl rfl rfl rfl ?_
        | refine WD.indexArr rfl rfl rfl rfl (by decide) rfl rfl rfl rfl ?_
        | refine WD.pass rfl rfl rfl rfl ?_
        | refine WD.skip rfl rfl rfl rfl rfl (hM.ss hS) ?_
        | refine WD.build rfl rfl rfl rfl rfl rfl ?_
        | (refine WD.slit hS hM rfl rfl rfl rfl rfl rfl rfl ?_; intro w b hS hM)
        | refine WD.eqS rfl rfl rfl rfl (by kernel_rfl) rfl rfl rfl rfl ?_
        | refine WD.neS rfl rfl rfl rfl (by kernel_rfl) rfl rfl rfl rfl ?_
        | (refine WD.box hS hM rfl rfl rfl rfl rfl rfl rfl ?_; intro w b hS hM)
        | ((fail_if_success (refine WD.wanted rfl ?_)); refine WD.guard rfl rfl rfl (fun h => ?_) (fun h => ?_) <;> (try simp only [Classical.not_not, Bool.not_eq_true', Bool.not_eq_false', Bool.not_eq_eq_eq_not, Bool.not_true, Bool.not_false, beq_iff_eq, beq_eq_false_iff_ne, ne_eq, decide_eq_decide, decide_eq_true_eq, decide_eq_false_iff_not, Bool.and_eq_true, Bool.or_eq_true, Bool.and_eq_false_iff, Bool.or_eq_false_iff] at h) <;> (try (exfalso; first | omega | contradiction))))
      | refine seqQ_n ?_
      | refine blkQ_n ?_
      | refine seqQ_x ?_
      | refine seqQ_r ?_
      | refine blkQ_r ?_
      | refine blkQ_hit rfl ?_
      | refine blkQ_miss rfl ?_
      | refine rndQ_x ?_
      | refine rndQ_r ?_
      | refine rdQ_n ?_
      | refine rdQ_x ?_
      | refine rdQ_r ?_
      | refine cutQ_n ?_
      | refine cutQ_r ?_
      | refine cutQ_miss rfl ?_
      | refine endQ_x ?_
      | refine endQ_r ?_)
    all_goals
      have hlk2 : ∀ x ∈ L1 ++ L2, x.1.length ≤ 1099511627 := fun y hy => hlk y (by
        rcases List.mem_append.1 hy with hy | hy
        · exact List.mem_append_left _ hy
        · exact List.mem_append_right _ (List.mem_cons_of_mem _ hy))
      rw [List.length_append, List.length_cons] at hXl
    · rw [if_pos h] at hsum
      exact rndQ_n (n + dat.length, L1 ++ L2, some (k, _)) ⟨⟨by omega, hlk2⟩, hS.droplast2 (by repeat (first | exact Pulls.nil | (apply Pulls.cons; focus (repeat (first | exact Pull.here | apply Pull.there)))))⟩ (by show (L1 ++ L2).length < L.length + 1; rw [List.length_append]; omega) ⟨vint (by omega), trivial⟩ ⟨rfl, rfl, trivial⟩
    · rw [if_neg h] at hsum
      exact rndQ_n (n, L1 ++ L2, some (k, _)) ⟨⟨by omega, hlk2⟩, hS.droplast2 (by repeat (first | exact Pulls.nil | (apply Pulls.cons; focus (repeat (first | exact Pull.here | apply Pull.there)))))⟩ (by show (L1 ++ L2).length < L.length + 1; rw [List.length_append]; omega) ⟨rfl, trivial⟩ ⟨rfl, rfl, trivial⟩

/-! ## The same, for the evaluator -/
def decIt : Value → Option It
  | .agg ⟨[.bool a, .string ⟨⟨b⟩⟩, .string ⟨⟨c⟩⟩, .bool d, .bool e, .int .i64 n]⟩ => some ⟨a, b, c, d, e, n⟩
  | _ => none
theorem decIt_spec {v : Value} {x : It} (h : decIt v = some x) : v = encIt x := by
  unfold decIt at h
  split at h
  · cases h; rfl
  · cases h
def decM : List (List UInt8 × Value) → Option (List (List UInt8 × It))
  | [] => some []
  | (k, v) :: l => match decIt v, decM l with
    | some x, some r => some ((k, x) :: r)
    | _, _ => none
theorem decM_spec {ρ : En} : ∀ {m : List (List UInt8 × Value)} {r : List (List UInt8 × It)} {m' : List (List UInt8 × Value)}, decM m = some r → Mr ρ m m' → m' = mmap encIt r
  | [], r, m', h, hm => by
    cases h; cases hm; rfl
  | (k, v) :: l, r, m', h, hm => by
    unfold decM at h
    split at h
    · rename_i x r1 h1 h2
      cases h
      cases hm with
      | cons hv ht =>
        have ih := decM_spec h2 ht
        rw [decIt_spec h1] at hv
        obtain ⟨l', e1, e2⟩ := hv.ag
        rw [ih, e1]
        obtain ⟨xa, xb, xc, xd, xe, xn⟩ := x
        cases e2 with | cons g1 e2 => cases e2 with | cons g2 e2 => cases e2 with | cons g3 e2 => cases e2 with | cons g4 e2 => cases e2 with | cons g5 e2 => cases e2 with | cons g6 e2 => cases e2; rw [g1.bool, g2.string, g3.string, g4.bool, g5.bool, g6.int]; rfl
    · cases h
def usedB (H : AH) : List Value → Rs (Value × AH)
  | [.pointer (some ⟨q, o, none⟩), .string ⟨⟨p⟩⟩] => match Nat.beq o 0, H.get q with
    | true, some (.box ty [.map (some mb), c1, c2, c3, c4, c5]) => match Nat.beq ty 62, H.get mb with
      | true, some (.mapS m) => match decM m with
        | some r => match okM m && Nat.ble (usedL p r) 4611686018427387904 with
          | true => .ok (.int .i64 ((usedL p r : Nat) : Int), ⟨H.t, H.nx, [q, mb] ++ H.wr⟩)
          | false => .no []
        | none => .no []
      | _, _ => .no []
    | _, _ => .no []
  | _ => .no []
theorem usedB_ok {H H' : AH} {args args' : List Value} {v : Value} {ρ : En} {w0 w : World} (h : usedB H args = .ok (v, H')) (ha : Vrs ρ args args') (hR : Rl ρ H w0 w) :
    Cal Tryz.prog 246 args' w fun v' w' => ∃ ρ', ρ.le ρ' ∧ Vr ρ' v v' ∧ Rl ρ' H' w0 w' ∧ Frm ρ H w H' w' := by
  unfold usedB at h
  split at h
  · rename_i q o p
    split at h
    · rename_i ty mb c1 c2 c3 c4 c5 ho hq
      split at h
      · rename_i m ht hm
        split at h
        · rename_i r hdec
          split at h
          · rename_i hb
            simp only [Bool.and_eq_true] at hb
            obtain ⟨hb, hbu⟩ := hb
            have hbu := Nat.le_of_ble_eq_true hbu
            have := Nat.eq_of_beq_eq_true ho; subst this
            have := Nat.eq_of_beq_eq_true ht; subst this
            have hres := Rs.ok.inj h
            obtain ⟨v1, v2, rfl, hv1, hv2⟩ : ∃ v1 v2, args' = [v1, v2] ∧ Vr ρ (.pointer (some ⟨q, 0, none⟩)) v1 ∧ Vr ρ (.string ⟨⟨p⟩⟩) v2 := by
              cases ha with | cons h1 ha => cases ha with | cons h2 ha => cases ha; exact ⟨_, _, rfl, h1, h2⟩
            obtain ⟨Lq, hLq, _, rfl⟩ := hv1.ptrS
            have hLq : ρ q = some Lq := hLq
            rw [hv2.string]
            obtain ⟨vm, hvm⟩ : ∃ cs', Vrs ρ [.map (some mb), c1, c2, c3, c4, c5] cs' := by
              obtain ⟨_, _, _, cs', r1, _⟩ := hR.at hq hLq
              exact ⟨cs', r1⟩
            obtain ⟨Lm, hLm⟩ : ∃ Lm, ρ mb = some Lm := by
              cases hvm with | cons h1 _ => obtain ⟨L, e, _⟩ := h1.mapS; exact ⟨L, e⟩
            clear vm hvm
            obtain ⟨cs', m', r1, r2, s1, s2, hin⟩ := boxMap_in hR hq hm hLq hLm
            obtain ⟨b1, b2⟩ := okM_spec hb r2
            have hm' := decM_spec hdec r2
            subst hm'
            obtain ⟨d1, d2, d3, d4, d5, rfl⟩ : ∃ d1 d2 d3 d4 d5, cs' = [.map (some Lm.blk), d1, d2, d3, d4, d5] := by
              have r := r1
              cases r with | cons h1 r => cases r with | cons h2 r => cases r with | cons h3 r => cases r with | cons h4 r => cases r with | cons h5 r => cases r with | cons h6 r => cases r; obtain ⟨L, e, e2⟩ := h1.mapS; rw [hLm] at e; cases e; rw [e2]; exact ⟨_, _, _, _, _, rfl⟩
            have hcal := dusedG_c p hin (fun x hx => by
              have := b2 (x.1, encIt x.2) (by unfold mmap; exact List.mem_map.2 ⟨x, hx, rfl⟩)
              have : x.1.length ≤ 1000000000 := this
              omega) hbu
            show Cal _ _ [.pointer (some ⟨Lq.blk, Lq.sh + 0, none⟩), _] _ _
            have hz : Lq.sh + 0 = 0 := by omega
            rw [hz]
            refine hcal.mono fun v' w' ⟨ev, hmut⟩ => ?_
            subst ev
            obtain ⟨g1, g2⟩ := boxMap_same hR hq hm hLq hLm r1 r2 s1 s2 hmut
            cases hres
            exact ⟨ρ, .refl _, .same rfl, g1, g2⟩
          · cases h
        · cases h
      · cases h
    · cases h
  · cases h
theorem usedB_wr {H H' : AH} {args : List Value} {v : Value} (h : usedB H args = .ok (v, H')) : ∀ b ∈ H.wr, b ∈ H'.wr := by
  unfold usedB at h
  repeat' split at h
  all_goals first
    | (cases h; done)
    | (have e := congrArg Prod.snd (Rs.ok.inj h)
       simp only at e
       rw [← e]; exact fun b hb => List.mem_append_right _ hb)
end Go.Proofs.YtlfhglcccmghlaaGreatDoor

/- What is proved: all that the evaluator knows by heart is right of the machine. Conditions: none. -/
set_option linter.unusedSimpArgs false
set_option linter.unusedVariables false
namespace Go.Proofs.YtlfhglcccmghlaaGreatDoor
open Go Go.J Go.RowKit
/-- what is known by heart of functions that turn memory -/
def turnT (fid : FuncId) (args : List Value) (H : AH) : Rs (Value × AH) := match Nat.beq fid 146 with
  | true => sortedB H args
  | false => match Nat.beq fid 120 with
    | true => listB H args
    | false => match Nat.beq fid 232 with
      | true => tkeysB H args
      | false => match Nat.beq fid 169 with
        | true => bkeysB H args
        | false => match Nat.beq fid 246 with
          | true => usedB H args
          | false => .no []
def biT : CallF := fun fid args H => match pureT fid args with
  | some v => .ok (v, H)
  | none => turnT fid args H
theorem turnT_ok {fid : FuncId} {H H' : AH} {args args' : List Value} {v : Value} {ρ : En} {w0 w : World} (h : turnT fid args H = .ok (v, H')) (ha : Vrs ρ args args') (hR : Rl ρ H w0 w) :
    Cal Tryz.prog fid args' w fun v' w' => ∃ ρ', ρ.le ρ' ∧ Vr ρ' v v' ∧ Rl ρ' H' w0 w' ∧ Frm ρ H w H' w' := by
  unfold turnT at h
  split at h
  · rename_i e; have := Nat.eq_of_beq_eq_true e; subst this; exact sortedB_ok h ha hR
  · skip
    split at h
    · rename_i e; have := Nat.eq_of_beq_eq_true e; subst this; exact listB_ok h ha hR
    · skip
      split at h
      · rename_i e; have := Nat.eq_of_beq_eq_true e; subst this; exact tkeysB_ok h ha hR
      · skip
        split at h
        · rename_i e; have := Nat.eq_of_beq_eq_true e; subst this; exact bkeysB_ok h ha hR
        · skip
          split at h
          · rename_i e; have := Nat.eq_of_beq_eq_true e; subst this; exact usedB_ok h ha hR
          · skip
            cases h
theorem turnT_wr {fid : FuncId} {H H' : AH} {args : List Value} {v : Value} (h : turnT fid args H = .ok (v, H')) : ∀ b ∈ H.wr, b ∈ H'.wr := by
  unfold turnT at h
  split at h
  · exact sortedB_wr h
  · skip
    split at h
    · exact listB_wr h
    · skip
      split at h
      · exact tkeysB_wr h
      · skip
        split at h
        · exact bkeysB_wr h
        · skip
          split at h
          · exact usedB_wr h
          · skip
            cases h
theorem bi_ok : ClOk Tryz.prog biT where
  wr := fun {fid args H v H'} h => by
    unfold biT at h
    split at h
    · cases h; exact fun _ h => h
    · exact turnT_wr h
  out := fun {fid args H v H'} h {ρ args' w0 w} ha hR => by
    unfold biT at h
    split at h
    · rename_i u hu
      have e := Rs.ok.inj h
      simp only [Prod.mk.injEq] at e
      obtain ⟨rfl, rfl⟩ := e
      obtain ⟨h1, h2⟩ := pureT_ok hu
      refine (h2 ha).mono fun v' w' ⟨hup, ev⟩ => ?_
      subst ev
      obtain ⟨k1, k2⟩ := hR.upd0 hup
      exact ⟨ρ, .refl _, .same h1, k1, k2⟩
    · exact turnT_ok h ha hR
end Go.Proofs.YtlfhglcccmghlaaGreatDoor
