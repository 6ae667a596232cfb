/- What is proved: contracts and plain facts that the law leans on (texts put together). Conditions: as each names them. -/
import Derived.Test.YtccfiohagbneaaaGreatDoorM4
import Derived.Shelf.SlIter.Nil
import Derived.Shelf.SortM.Plain
import Derived.Shelf.SortM.SortNone
import Derived.Shelf.Strconv.Atoi
import Derived.Shelf.Strconv.Itoa3
import Derived.Shelf.Small.Strs
import Derived.Test.YtccfiohagbneaaaGreatDoorProg
set_option linter.unusedSimpArgs false
set_option linter.unusedVariables false
set_option linter.unusedSectionVars false
/-
  DERIVED: THE SHELF's CONTRACTS AT THIS DUMP, IN PLAIN WORDS (tools/lay-plain.mjs out of 'TryzShelf.lean', which tools/lay-shelf.mjs wrote): THE SAME DECLARATIONS UNDER THE SAME NAMES: 'import', 'namespace', 'open', 'def', 'theorem' AND NOTHING ELSE: no command of the shelf's: FOR A HAND-IN. Each laying: the table of numbers ('.._ren') and one theorem, a field a fact of the dump's own or the kernel's comparison; each contract: ONE APPLICATION.
-/
namespace Go.Proofs
open Go.Shelf
def Tryz.keysL_ren : Go.Shelf.Ren := ⟨fun | 7 => 76 | 10 => 139 | n => n, fun | 23 => 119 | 26 => 9 | 3 => 128 | 28 => 125 | 0 => 0 | 27 => 124 | 33 => 107 | 4 => 4 | n => n, fun | n => n⟩
theorem Tryz.keysL : Go.Proofs.SlLaysZ.n7 Tryz.prog Tryz.keysL_ren := {
  mixed := by kernel_rfl
  f7 := ⟨Tryz.f76.name, by decide, Tryz.func76.trans (congrArg some (by kernel_rfl))⟩
  f10 := ⟨Tryz.f139.name, by decide, Tryz.func139.trans (congrArg some (by kernel_rfl))⟩
  t0 := Tryz.underlying0
  a0 := Tryz.isAgg0
  z0 := Tryz.sizeOf0
  v0 := Tryz.zeroValue0
  t4 := Tryz.underlying4
  a4 := Tryz.isAgg4
  z4 := Tryz.sizeOf4
  v4 := Tryz.zeroValue4
  t23 := Tryz.underlying119
  a23 := Tryz.isAgg119
  z23 := Tryz.sizeOf119
  v23 := Tryz.zeroValue119
  t26 := Tryz.underlying9
  a26 := Tryz.isAgg9
  z26 := Tryz.sizeOf9
  v26 := Tryz.zeroValue9
  t27 := Tryz.underlying124
  a27 := Tryz.isAgg124
  z27 := Tryz.sizeOf124
  v27 := Tryz.zeroValue124
  t28 := Tryz.underlying125
  a28 := Tryz.isAgg125
  z28 := Tryz.sizeOf125
  v28 := Tryz.zeroValue125
  t33 := Tryz.underlying107
  a33 := Tryz.isAgg107
  z33 := Tryz.sizeOf107
  v33 := Tryz.zeroValue107 }
def Tryz.sortedL_ren : Go.Shelf.Ren := ⟨fun | 6 => 75 | 8 => 137 | 9 => 138 | 11 => 179 | 13 => 181 | 12 => 180 | 23 => 211 | 24 => 212 | 14 => 202 | 15 => 203 | 16 => 204 | 17 => 205 | 18 => 206 | 19 => 207 | 20 => 208 | 21 => 209 | 22 => 210 | 25 => 226 | 26 => 227 | 27 => 228 | 28 => 229 | 29 => 230 | 30 => 231 | 31 => 240 | n => n, fun | 26 => 9 | 28 => 125 | 24 => 56 | 0 => 0 | 3 => 3 | 37 => 190 | 48 => 188 | 50 => 129 | 4 => 4 | 40 => 261 | 39 => 260 | 45 => 193 | 5 => 5 | 9 => 9 | 51 => 276 | 55 => 280 | 57 => 288 | 58 => 289 | 33 => 107 | n => n, fun | n => n⟩
theorem Tryz.sortedL : Go.Proofs.SlLaysZ.n6 Tryz.prog Tryz.sortedL_ren := {
  mixed := by kernel_rfl
  f6 := ⟨Tryz.f75.name, by decide, Tryz.func75.trans (congrArg some (by kernel_rfl))⟩
  f8 := ⟨Tryz.f137.name, by decide, Tryz.func137.trans (congrArg some (by kernel_rfl))⟩
  f11 := ⟨Tryz.f179.name, by decide, Tryz.func179.trans (congrArg some (by kernel_rfl))⟩
  t0 := Tryz.underlying0
  a0 := Tryz.isAgg0
  z0 := Tryz.sizeOf0
  v0 := Tryz.zeroValue0
  t24 := Tryz.underlying56
  a24 := Tryz.isAgg56
  z24 := Tryz.sizeOf56
  v24 := Tryz.zeroValue56
  t26 := Tryz.underlying9
  a26 := Tryz.isAgg9
  z26 := Tryz.sizeOf9
  v26 := Tryz.zeroValue9
  t28 := Tryz.underlying125
  a28 := Tryz.isAgg125
  z28 := Tryz.sizeOf125
  v28 := Tryz.zeroValue125
  i26 := by kernel_rfl }
def Tryz.sortL_ren : Go.Shelf.Ren := ⟨fun | 6 => 138 | 8 => 181 | 9 => 180 | 19 => 211 | 20 => 212 | 21 => 202 | 22 => 203 | 23 => 204 | 24 => 205 | 25 => 206 | 26 => 207 | 27 => 208 | 28 => 209 | 29 => 210 | 36 => 226 | 31 => 227 | 32 => 228 | 37 => 229 | 38 => 230 | 39 => 231 | 41 => 240 | n => n, fun | 27 => 56 | 29 => 9 | 3 => 3 | 32 => 190 | 26 => 56 | 0 => 0 | 44 => 188 | 46 => 129 | 4 => 4 | 36 => 261 | 35 => 260 | 41 => 193 | 5 => 5 | 9 => 9 | 53 => 276 | 57 => 280 | 63 => 288 | 64 => 289 | n => n, fun | n => n⟩
theorem Tryz.sortL : Go.Proofs.SlLaysM.n6 Tryz.prog Tryz.sortL_ren := {
  mixed := by kernel_rfl
  f6 := ⟨Tryz.f138.name, by decide, Tryz.func138.trans (congrArg some (by kernel_rfl))⟩
  f8 := Tryz.func181.trans (congrArg some (by kernel_rfl))
  f9 := ⟨Tryz.f180.name, by decide, Tryz.func180.trans (congrArg some (by kernel_rfl))⟩
  f19 := Tryz.func211.trans (congrArg some (by kernel_rfl))
  f20 := Tryz.func212.trans (congrArg some (by kernel_rfl))
  f21 := ⟨Tryz.f202.name, by decide, Tryz.func202.trans (congrArg some (by kernel_rfl))⟩
  f22 := ⟨Tryz.f203.name, by decide, Tryz.func203.trans (congrArg some (by kernel_rfl))⟩
  f23 := ⟨Tryz.f204.name, by decide, Tryz.func204.trans (congrArg some (by kernel_rfl))⟩
  f24 := ⟨Tryz.f205.name, by decide, Tryz.func205.trans (congrArg some (by kernel_rfl))⟩
  f25 := ⟨Tryz.f206.name, by decide, Tryz.func206.trans (congrArg some (by kernel_rfl))⟩
  f26 := ⟨Tryz.f207.name, by decide, Tryz.func207.trans (congrArg some (by kernel_rfl))⟩
  f27 := ⟨Tryz.f208.name, by decide, Tryz.func208.trans (congrArg some (by kernel_rfl))⟩
  f28 := ⟨Tryz.f209.name, by decide, Tryz.func209.trans (congrArg some (by kernel_rfl))⟩
  f29 := ⟨Tryz.f210.name, by decide, Tryz.func210.trans (congrArg some (by kernel_rfl))⟩
  f31 := Tryz.func227.trans (congrArg some (by kernel_rfl))
  f32 := Tryz.func228.trans (congrArg some (by kernel_rfl))
  f36 := ⟨Tryz.f226.name, by decide, Tryz.func226.trans (congrArg some (by kernel_rfl))⟩
  f37 := ⟨Tryz.f229.name, by decide, Tryz.func229.trans (congrArg some (by kernel_rfl))⟩
  f38 := ⟨Tryz.f230.name, by decide, Tryz.func230.trans (congrArg some (by kernel_rfl))⟩
  f39 := ⟨Tryz.f231.name, by decide, Tryz.func231.trans (congrArg some (by kernel_rfl))⟩
  f41 := ⟨Tryz.f240.name, by decide, Tryz.func240.trans (congrArg some (by kernel_rfl))⟩
  t0 := Tryz.underlying0
  a0 := Tryz.isAgg0
  z0 := Tryz.sizeOf0
  v0 := Tryz.zeroValue0
  t3 := Tryz.underlying3
  a3 := Tryz.isAgg3
  z3 := Tryz.sizeOf3
  v3 := Tryz.zeroValue3
  t4 := Tryz.underlying4
  a4 := Tryz.isAgg4
  z4 := Tryz.sizeOf4
  v4 := Tryz.zeroValue4
  t5 := Tryz.underlying5
  a5 := Tryz.isAgg5
  z5 := Tryz.sizeOf5
  v5 := Tryz.zeroValue5
  t9 := Tryz.underlying9
  a9 := Tryz.isAgg9
  z9 := Tryz.sizeOf9
  v9 := Tryz.zeroValue9
  t26 := Tryz.underlying56
  a26 := Tryz.isAgg56
  z26 := Tryz.sizeOf56
  v26 := Tryz.zeroValue56
  t27 := Tryz.underlying56
  a27 := Tryz.isAgg56
  z27 := Tryz.sizeOf56
  v27 := Tryz.zeroValue56
  t29 := Tryz.underlying9
  a29 := Tryz.isAgg9
  z29 := Tryz.sizeOf9
  v29 := Tryz.zeroValue9
  t32 := Tryz.underlying190
  a32 := Tryz.isAgg190
  z32 := Tryz.sizeOf190
  v32 := Tryz.zeroValue190
  t35 := Tryz.underlying260
  a35 := Tryz.isAgg260
  z35 := Tryz.sizeOf260
  v35 := Tryz.zeroValue260
  t36 := Tryz.underlying261
  a36 := Tryz.isAgg261
  z36 := Tryz.sizeOf261
  v36 := Tryz.zeroValue261
  t41 := Tryz.underlying193
  a41 := Tryz.isAgg193
  z41 := Tryz.sizeOf193
  v41 := Tryz.zeroValue193
  t44 := Tryz.underlying188
  a44 := Tryz.isAgg188
  z44 := Tryz.sizeOf188
  v44 := Tryz.zeroValue188
  t46 := Tryz.underlying129
  a46 := Tryz.isAgg129
  z46 := Tryz.sizeOf129
  v46 := Tryz.zeroValue129
  t53 := Tryz.underlying276
  a53 := Tryz.isAgg276
  z53 := Tryz.sizeOf276
  v53 := Tryz.zeroValue276
  t57 := Tryz.underlying280
  a57 := Tryz.isAgg280
  z57 := Tryz.sizeOf280
  v57 := Tryz.zeroValue280
  t63 := Tryz.underlying288
  a63 := Tryz.isAgg288
  z63 := Tryz.sizeOf288
  v63 := Tryz.zeroValue288
  t64 := Tryz.underlying289
  a64 := Tryz.isAgg289
  z64 := Tryz.sizeOf289
  v64 := Tryz.zeroValue289 }
def Tryz.keysVL_ren : Go.Shelf.Ren := ⟨fun | 7 => 98 | 10 => 155 | n => n, fun | 23 => 137 | 26 => 9 | 3 => 157 | 28 => 125 | 0 => 0 | 27 => 124 | 33 => 107 | 4 => 4 | n => n, fun | n => n⟩
theorem Tryz.keysVL : Go.Proofs.SlLaysZ.n7 Tryz.prog Tryz.keysVL_ren := {
  mixed := by kernel_rfl
  f7 := ⟨Tryz.f98.name, by decide, Tryz.func98.trans (congrArg some (by kernel_rfl))⟩
  f10 := ⟨Tryz.f155.name, by decide, Tryz.func155.trans (congrArg some (by kernel_rfl))⟩
  t0 := Tryz.underlying0
  a0 := Tryz.isAgg0
  z0 := Tryz.sizeOf0
  v0 := Tryz.zeroValue0
  t4 := Tryz.underlying4
  a4 := Tryz.isAgg4
  z4 := Tryz.sizeOf4
  v4 := Tryz.zeroValue4
  t23 := Tryz.underlying137
  a23 := Tryz.isAgg137
  z23 := Tryz.sizeOf137
  v23 := Tryz.zeroValue137
  t26 := Tryz.underlying9
  a26 := Tryz.isAgg9
  z26 := Tryz.sizeOf9
  v26 := Tryz.zeroValue9
  t27 := Tryz.underlying124
  a27 := Tryz.isAgg124
  z27 := Tryz.sizeOf124
  v27 := Tryz.zeroValue124
  t28 := Tryz.underlying125
  a28 := Tryz.isAgg125
  z28 := Tryz.sizeOf125
  v28 := Tryz.zeroValue125
  t33 := Tryz.underlying107
  a33 := Tryz.isAgg107
  z33 := Tryz.sizeOf107
  v33 := Tryz.zeroValue107 }
def Tryz.keysNL_ren : Go.Shelf.Ren := ⟨fun | 7 => 168 | 10 => 198 | n => n, fun | 23 => 227 | 26 => 9 | 3 => 94 | 28 => 125 | 0 => 0 | 27 => 124 | 33 => 107 | 4 => 4 | n => n, fun | n => n⟩
theorem Tryz.keysNL : Go.Proofs.SlLaysZ.n7 Tryz.prog Tryz.keysNL_ren := {
  mixed := by kernel_rfl
  f7 := ⟨Tryz.f168.name, by decide, Tryz.func168.trans (congrArg some (by kernel_rfl))⟩
  f10 := ⟨Tryz.f198.name, by decide, Tryz.func198.trans (congrArg some (by kernel_rfl))⟩
  t0 := Tryz.underlying0
  a0 := Tryz.isAgg0
  z0 := Tryz.sizeOf0
  v0 := Tryz.zeroValue0
  t4 := Tryz.underlying4
  a4 := Tryz.isAgg4
  z4 := Tryz.sizeOf4
  v4 := Tryz.zeroValue4
  t23 := Tryz.underlying227
  a23 := Tryz.isAgg227
  z23 := Tryz.sizeOf227
  v23 := Tryz.zeroValue227
  t26 := Tryz.underlying9
  a26 := Tryz.isAgg9
  z26 := Tryz.sizeOf9
  v26 := Tryz.zeroValue9
  t27 := Tryz.underlying124
  a27 := Tryz.isAgg124
  z27 := Tryz.sizeOf124
  v27 := Tryz.zeroValue124
  t28 := Tryz.underlying125
  a28 := Tryz.isAgg125
  z28 := Tryz.sizeOf125
  v28 := Tryz.zeroValue125
  t33 := Tryz.underlying107
  a33 := Tryz.isAgg107
  z33 := Tryz.sizeOf107
  v33 := Tryz.zeroValue107 }
def Tryz.itoaL_ren : Go.Shelf.Ren := ⟨fun | 171 => 157 | 243 => 187 | 246 => 215 | 283 => 233 | 284 => 234 | 285 => 235 | 286 => 236 | 129 => 212 | 317 => 245 | 318 => 246 | 319 => 247 | 320 => 248 | 337 => 252 | 338 => 253 | n => n, fun | 3 => 3 | 9 => 9 | 2 => 2 | 4 => 4 | 171 => 282 | 0 => 0 | 53 => 129 | 37 => 191 | 5 => 5 | 173 => 284 | 212 => 292 | 51 => 188 | 20 => 20 | 213 => 293 | 46 => 190 | 232 => 298 | 233 => 299 | n => n, fun | 17 => 1 | 18 => 2 | 19 => 3 | n => n⟩
theorem Tryz.itoaL : Go.Proofs.LaysM.n171 Tryz.prog Tryz.itoaL_ren := {
  mixed := by kernel_rfl
  f129 := Tryz.func212.trans (congrArg some (by kernel_rfl))
  f171 := Tryz.func157.trans (congrArg some (by kernel_rfl))
  f243 := Tryz.func187.trans (congrArg some (by kernel_rfl))
  f246 := Tryz.func215.trans (congrArg some (by kernel_rfl))
  f283 := Tryz.func233.trans (congrArg some (by kernel_rfl))
  f284 := Tryz.func234.trans (congrArg some (by kernel_rfl))
  f285 := Tryz.func235.trans (congrArg some (by kernel_rfl))
  f286 := Tryz.func236.trans (congrArg some (by kernel_rfl))
  f317 := Tryz.func245.trans (congrArg some (by kernel_rfl))
  f318 := Tryz.func246.trans (congrArg some (by kernel_rfl))
  f319 := Tryz.func247.trans (congrArg some (by kernel_rfl))
  f320 := Tryz.func248.trans (congrArg some (by kernel_rfl))
  f337 := Tryz.func252.trans (congrArg some (by kernel_rfl))
  f338 := Tryz.func253.trans (congrArg some (by kernel_rfl))
  t0 := Tryz.underlying0
  a0 := Tryz.isAgg0
  z0 := Tryz.sizeOf0
  v0 := Tryz.zeroValue0
  t2 := Tryz.underlying2
  a2 := Tryz.isAgg2
  z2 := Tryz.sizeOf2
  v2 := Tryz.zeroValue2
  t3 := Tryz.underlying3
  a3 := Tryz.isAgg3
  z3 := Tryz.sizeOf3
  v3 := Tryz.zeroValue3
  t4 := Tryz.underlying4
  a4 := Tryz.isAgg4
  z4 := Tryz.sizeOf4
  v4 := Tryz.zeroValue4
  t5 := Tryz.underlying5
  a5 := Tryz.isAgg5
  z5 := Tryz.sizeOf5
  v5 := Tryz.zeroValue5
  t9 := Tryz.underlying9
  a9 := Tryz.isAgg9
  z9 := Tryz.sizeOf9
  v9 := Tryz.zeroValue9
  t20 := Tryz.underlying20
  a20 := Tryz.isAgg20
  z20 := Tryz.sizeOf20
  v20 := Tryz.zeroValue20
  t37 := Tryz.underlying191
  a37 := Tryz.isAgg191
  z37 := Tryz.sizeOf191
  v37 := Tryz.zeroValue191
  t46 := Tryz.underlying190
  a46 := Tryz.isAgg190
  z46 := Tryz.sizeOf190
  v46 := Tryz.zeroValue190
  t51 := Tryz.underlying188
  a51 := Tryz.isAgg188
  z51 := Tryz.sizeOf188
  v51 := Tryz.zeroValue188
  t53 := Tryz.underlying129
  a53 := Tryz.isAgg129
  z53 := Tryz.sizeOf129
  v53 := Tryz.zeroValue129
  t171 := Tryz.underlying282
  a171 := Tryz.isAgg282
  z171 := Tryz.sizeOf282
  v171 := Tryz.zeroValue282
  t173 := Tryz.underlying284
  a173 := Tryz.isAgg284
  z173 := Tryz.sizeOf284
  v173 := Tryz.zeroValue284
  t212 := Tryz.underlying292
  a212 := Tryz.isAgg292
  z212 := Tryz.sizeOf292
  v212 := Tryz.zeroValue292
  t213 := Tryz.underlying293
  a213 := Tryz.isAgg293
  z213 := Tryz.sizeOf293
  t232 := Tryz.underlying298
  a232 := Tryz.isAgg298
  z232 := Tryz.sizeOf298
  v232 := Tryz.zeroValue298
  t233 := Tryz.underlying299
  a233 := Tryz.isAgg299
  z233 := Tryz.sizeOf299
  v233 := Tryz.zeroValue299
  g17 := by kernel_rfl
  g18 := by kernel_rfl
  g19 := by kernel_rfl
  i0 := by kernel_rfl
  i2 := by kernel_rfl
  i3 := by kernel_rfl
  i4 := by kernel_rfl
  i5 := by kernel_rfl
  i9 := by kernel_rfl
  i20 := by kernel_rfl
  i37 := by kernel_rfl
  i46 := by kernel_rfl
  i51 := by kernel_rfl
  i53 := by kernel_rfl
  i171 := by kernel_rfl
  i173 := by kernel_rfl
  i212 := by kernel_rfl
  i232 := by kernel_rfl
  i233 := by kernel_rfl
  m17 := by kernel_rfl
  m18 := by kernel_rfl
  m19 := by kernel_rfl }
def Tryz.compareL_ren : Go.Shelf.Ren := ⟨fun | 106 => 192 | 213 => 219 | 265 => 237 | n => n, fun | 9 => 9 | 3 => 3 | n => n, fun | n => n⟩
theorem Tryz.compareL : Go.Proofs.Lays.n106 Tryz.prog Tryz.compareL_ren := {
  mixed := by kernel_rfl
  f106 := Tryz.func192.trans (congrArg some (by kernel_rfl))
  f213 := Tryz.func219.trans (congrArg some (by kernel_rfl))
  f265 := Tryz.func237.trans (congrArg some (by kernel_rfl))
  t3 := Tryz.underlying3
  a3 := Tryz.isAgg3
  z3 := Tryz.sizeOf3
  v3 := Tryz.zeroValue3
  t9 := Tryz.underlying9
  a9 := Tryz.isAgg9
  z9 := Tryz.sizeOf9
  v9 := Tryz.zeroValue9 }
end Go.Proofs

/- What is proved: 'slices.Sorted(maps.Keys(m))' gives the keys, rising. Conditions: the map is not nil, its keys and their number are bounded. -/
namespace Go.Proofs.YtccfiohagbneaaaGreatDoor
open Go Go.J Go.RowKit Go.Maps Go.Sort Go.Shelf
def anyR : Value → Option (DataW Unit × List MemPlace) := fun _ => some (.nil, [])
theorem own_of_map {P : Program} {k : TypeId} {b : Nat} {m : KV} {w : World} (hk : P.underlying k = some .string) (h : MapIs b m w) (hl : m.length ≤ maxLen) (hkl : ∀ p ∈ m, p.1.length ≤ maxLen) :
    ∃ D0 : DataW Unit, w.ownsMap P k anyR b m.length D0 ∧ (strKeys D0).Perm (m.map Prod.fst) ∧ Maps.size D0 = m.length := by
  obtain ⟨hnd, es, clock, hb, hkv, hbn, hbc⟩ := h
  have hlen : es.length = m.length := by have := congrArg List.length hkv; simpa [kvs, kvm] using this
  have hkeys : es.map (·.key) = m.map fun p => str p.1 := by
    have := congrArg (List.map Prod.fst) hkv
    simpa [kvs, kvm, List.map_map, Function.comp_def] using this
  have hrd : ∀ x ∈ es, ∃ s, x.key = str s ∧ WideElems.rd P k anyR x = some (.string s, .nil) := fun x hx => by
    have hm : x.key ∈ es.map (·.key) := List.mem_map_of_mem hx
    rw [hkeys] at hm
    obtain ⟨p, hp, he⟩ := List.mem_map.1 hm
    refine ⟨p.1, he.symm, ?_⟩
    unfold WideElems.rd
    rw [← he, WideMaps.keyOf_string_mk hk (show (⟨⟨p.1⟩⟩ : ByteArray).size ≤ maxLen from by rw [size_mk]; exact hkl p hp)]
    rfl
  refine ⟨.map ((es.map (WideElems.rg P k anyR)).foldr DataW.insert []), ⟨⟨es⟩, clock, hb, ⟨by simpa [hlen] using hl, ⟨by simpa using hbc, by simpa using hbn, ?_⟩, fun x hx => ?_⟩, by simp [hlen], rfl⟩, ?_, ?_⟩
  · simp only
    rw [hkeys]
    have : (m.map fun p => str p.1) = (m.map Prod.fst).map str := by simp [List.map_map, Function.comp_def]
    rw [this]
    refine List.Pairwise.map (S := fun a b => a ≠ b) str (fun a b h e => h ?_) hnd
    simpa [str] using e
  · obtain ⟨s, _, h2⟩ := hrd x (by simpa using hx)
    exact ⟨_, h2⟩
  · have hp : ((es.map (WideElems.rg P k anyR)).foldr DataW.insert []).Perm (es.map (WideElems.rg P k anyR)) := Go.WideShapes.sorted_perm _
    refine (hp.map fun p => strOf p.1).trans ?_
    rw [List.map_map]
    have e : es.map ((fun p => strOf p.1) ∘ WideElems.rg P k anyR) = m.map Prod.fst := by
      have h1 : (es.map fun x => x.key) = ((m.map Prod.fst).map str) := by rw [hkeys]; simp [List.map_map, Function.comp_def]
      have h2 : ∀ x ∈ es, str (((fun p => strOf p.1) ∘ WideElems.rg P k anyR) x) = x.key := fun x hx => by
        obtain ⟨s, h1, h2⟩ := hrd x hx
        simp only [Function.comp_def, WideElems.rg, h2, Option.getD_some, strOf, h1]
      have h3 : (es.map ((fun p => strOf p.1) ∘ WideElems.rg P k anyR)).map str = (m.map Prod.fst).map str := by
        rw [← h1, List.map_map]
        exact List.map_congr_left h2
      exact (List.map_inj_right (f := str) (fun a b h => by simpa [str] using h)).1 h3
    rw [e]
  · have hp : ((es.map (WideElems.rg P k anyR)).foldr DataW.insert []).Perm (es.map (WideElems.rg P k anyR)) := Go.WideShapes.sorted_perm _
    have := hp.length_eq
    rw [List.length_map] at this
    rw [← hlen, ← this]
    rfl
theorem sortsL (m : Nat) : AnyZ.SortsIn Tryz.prog Tryz.sortedL_ren Fence.wide m :=
  ⟨fun blk off cap ss W hH hblk hsz => callsIn_wide.2 (AnyM.slices_Sort_string Tryz.sortL blk off cap ss W hH hblk hsz),
   fun p cap W => callsIn_wide.2 (AnyM.slices_Sort_string_none Tryz.sortL p cap W)⟩
def keysT : TypeId := Tryz.keysL_ren.t 23 -- 76
theorem mapsKeys_c (mb : Nat) (w : World) : Cal Tryz.prog 76 [.map (some mb)] w fun v w' => v = .func (.func 139) ⟨[]⟩ ⟨[.pointer (some ⟨w.heap.size, 0, none⟩)]⟩ ∧ w' = w.alloc (.cells ⟨[.map (some mb)]⟩ keysT) :=
  ⟨by kernel_rfl, (callsIn_wide.1 (AnyZ.keys_in Tryz.keysL Fence.wide 5 trivial rfl (some mb) w)).mono fun e w' ⟨h1, h2⟩ => ⟨_, h1, rfl, h2⟩⟩
theorem mapsKeys_n (mb : Nat) (w : World) : Cal Tryz.prog 76 [.map (some mb)] w fun v w' => ∃ x, v = .func (.func 139) ⟨[]⟩ ⟨[.pointer (some ⟨x, 0, none⟩)]⟩ ∧ Upd [] w w' ∧ New w w' (.box x keysT [.map (some mb)]) :=
  (mapsKeys_c mb w).mono fun v w' ⟨h1, h2⟩ => by
    subst h2
    have hh := heap_alloc_new w (.cells ⟨[.map (some mb)]⟩ keysT)
    exact ⟨_, h1, .alloc _ _ _, ⟨hh, fun b hb => by simp [Chunk.fp] at hb; subst hb; simp⟩⟩
theorem sorted_c {x mb : Nat} {m : KV} {w : World} (hx : w.heap[x]? = some (.cells ⟨[.map (some mb)]⟩ keysT (0, 0))) (hm : MapIs mb m w) (hl : m.length ≤ 1048576) (hkl : ∀ p ∈ m, p.1.length ≤ 1099511627776) :
    Cal Tryz.prog 75 [.func (.func 139) ⟨[]⟩ ⟨[.pointer (some ⟨x, 0, none⟩)]⟩] w fun v w' => Upd [] w w' ∧ ∃ A cap, v = .slice A m.length cap ∧
      New w w' (.own (.slice A m.length cap) 9 1 m.length (strs ((m.map Prod.fst).mergeSort (fun x y => decide (x ≤ y))))) := by
  have hmx : m.length ≤ maxLen := by unfold maxLen; omega
  obtain ⟨D0, hown, hperm, hsz⟩ := own_of_map Tryz.underlying9 hm hmx (fun p hp => by have := hkl p hp; unfold maxLen; omega)
  have hxl : x < w.heap.size := (Array.getElem?_eq_some_iff.1 hx).1
  have hseq : SeqGives Fence.wide 2 Tryz.prog 139 #[.pointer (some ⟨x, 0, none⟩)] encStr (fun ss => ss.Perm (strKeys D0)) (Maps.size D0) w :=
    AnyZ.keys_gives (ρ := Tryz.keysL_ren) { Tryz.keysL with } Fence.wide _ trivial rfl (by omega) x mb m.length D0 _ hxl (by rw [cell_of_row w x 0 _ _ _ hx]; rfl) hown
  have cS := AnyZ.sorted_in Tryz.sortedL Fence.wide 5 trivial trivial trivial trivial rfl (by omega) (sortsL _) (enters_of Tryz.func138 (by kernel_rfl) rfl) 139 #[.pointer (some ⟨x, 0, none⟩)] trivial (enters_of Tryz.func139 (by kernel_rfl) rfl) _ _ (by rw [hsz]; exact hmx) (by rw [hsz]; omega) _ hseq
  change CallsIn _ _ Tryz.prog 75 _ _ _ at cS
  refine ⟨by kernel_rfl, (callsIn_wide.1 cS).mono fun e w' ⟨v, ss, he, hS, hrow, hnil, hb⟩ => ⟨v, he, .of_below hb, ?_⟩⟩
  have hp : ss.Perm (m.map Prod.fst) := hS.trans hperm
  have hlen : ss.length = m.length := by rw [hp.length_eq, List.length_map]
  have hms : ss.mergeSort (fun x y => decide (x ≤ y)) = (m.map Prod.fst).mergeSort (fun x y => decide (x ≤ y)) := mergeSort_of_perm hp
  rw [hms, hlen] at hrow
  have hst : ((m.map Prod.fst).mergeSort (fun x y => decide (x ≤ y))).map encStr = strs ((m.map Prod.fst).mergeSort (fun x y => decide (x ≤ y))) := by
    generalize (m.map Prod.fst).mergeSort (fun x y => decide (x ≤ y)) = l
    induction l with
    | nil => rfl
    | cons a l ih => simp only [List.map_cons, ih]; rfl
  rw [hst] at hrow
  have hrow' := hrow
  rcases hrow.2 with ⟨rfl, hz⟩ | ⟨g, cap, cur, rfl, hg, hh, _⟩
  · refine ⟨none, 0, by rw [hz], ⟨?_, fun b hb => by simp [Chunk.fp, Value.ownBlock] at hb⟩⟩
    have := RowAt.of_owns hrow
    rwa [hz] at this ⊢
  · exact ⟨_, _, rfl, ⟨RowAt.of_owns hrow', fun b hb => by
      simp [Chunk.fp, Value.ownBlock] at hb
      subst hb
      exact ⟨hg, (Array.getElem?_eq_some_iff.1 hh).1⟩⟩⟩
end Go.Proofs.YtccfiohagbneaaaGreatDoor

/- What is proved: 'slices.Sorted(maps.Keys(m))' gives the keys, rising. Conditions: the map is not nil, its keys and their number are bounded. -/
namespace Go.Proofs.YtccfiohagbneaaaGreatDoor
open Go Go.J Go.RowKit Go.Maps Go.Sort Go.Shelf
def keysVT : TypeId := Tryz.keysVL_ren.t 23
theorem mapsKeysV_c (mb : Nat) (w : World) : Cal Tryz.prog 98 [.map (some mb)] w fun v w' => v = .func (.func 155) ⟨[]⟩ ⟨[.pointer (some ⟨w.heap.size, 0, none⟩)]⟩ ∧ w' = w.alloc (.cells ⟨[.map (some mb)]⟩ keysVT) :=
  ⟨by kernel_rfl, (callsIn_wide.1 (AnyZ.keys_in Tryz.keysVL Fence.wide 5 trivial rfl (some mb) w)).mono fun e w' ⟨h1, h2⟩ => ⟨_, h1, rfl, h2⟩⟩
theorem mapsKeysV_n (mb : Nat) (w : World) : Cal Tryz.prog 98 [.map (some mb)] w fun v w' => ∃ x, v = .func (.func 155) ⟨[]⟩ ⟨[.pointer (some ⟨x, 0, none⟩)]⟩ ∧ Upd [] w w' ∧ New w w' (.box x keysVT [.map (some mb)]) :=
  (mapsKeysV_c mb w).mono fun v w' ⟨h1, h2⟩ => by
    subst h2
    have hh := heap_alloc_new w (.cells ⟨[.map (some mb)]⟩ keysVT)
    exact ⟨_, h1, .alloc _ _ _, ⟨hh, fun b hb => by simp [Chunk.fp] at hb; subst hb; simp⟩⟩
theorem sortedV_c {x mb : Nat} {m : KV} {w : World} (hx : w.heap[x]? = some (.cells ⟨[.map (some mb)]⟩ keysVT (0, 0))) (hm : MapIs mb m w) (hl : m.length ≤ 1048576) (hkl : ∀ p ∈ m, p.1.length ≤ 1099511627776) :
    Cal Tryz.prog 75 [.func (.func 155) ⟨[]⟩ ⟨[.pointer (some ⟨x, 0, none⟩)]⟩] w fun v w' => Upd [] w w' ∧ ∃ A cap, v = .slice A m.length cap ∧
      New w w' (.own (.slice A m.length cap) 9 1 m.length (strs ((m.map Prod.fst).mergeSort (fun x y => decide (x ≤ y))))) := by
  have hmx : m.length ≤ maxLen := by unfold maxLen; omega
  obtain ⟨D0, hown, hperm, hsz⟩ := own_of_map Tryz.underlying9 hm hmx (fun p hp => by have := hkl p hp; unfold maxLen; omega)
  have hxl : x < w.heap.size := (Array.getElem?_eq_some_iff.1 hx).1
  have hseq : SeqGives Fence.wide 2 Tryz.prog 155 #[.pointer (some ⟨x, 0, none⟩)] encStr (fun ss => ss.Perm (strKeys D0)) (Maps.size D0) w :=
    AnyZ.keys_gives (ρ := Tryz.keysVL_ren) { Tryz.keysVL with } Fence.wide _ trivial rfl (by omega) x mb m.length D0 _ hxl (by rw [cell_of_row w x 0 _ _ _ hx]; rfl) hown
  have cS := AnyZ.sorted_in Tryz.sortedL Fence.wide 5 trivial trivial trivial trivial rfl (by omega) (sortsL _) (enters_of Tryz.func138 (by kernel_rfl) rfl) 155 #[.pointer (some ⟨x, 0, none⟩)] trivial (enters_of Tryz.func155 (by kernel_rfl) rfl) _ _ (by rw [hsz]; exact hmx) (by rw [hsz]; omega) _ hseq
  change CallsIn _ _ Tryz.prog 75 _ _ _ at cS
  refine ⟨by kernel_rfl, (callsIn_wide.1 cS).mono fun e w' ⟨v, ss, he, hS, hrow, hnil, hb⟩ => ⟨v, he, .of_below hb, ?_⟩⟩
  have hp : ss.Perm (m.map Prod.fst) := hS.trans hperm
  have hlen : ss.length = m.length := by rw [hp.length_eq, List.length_map]
  have hms : ss.mergeSort (fun x y => decide (x ≤ y)) = (m.map Prod.fst).mergeSort (fun x y => decide (x ≤ y)) := mergeSort_of_perm hp
  rw [hms, hlen] at hrow
  have hst : ((m.map Prod.fst).mergeSort (fun x y => decide (x ≤ y))).map encStr = strs ((m.map Prod.fst).mergeSort (fun x y => decide (x ≤ y))) := by
    generalize (m.map Prod.fst).mergeSort (fun x y => decide (x ≤ y)) = l
    induction l with
    | nil => rfl
    | cons a l ih => simp only [List.map_cons, ih]; rfl
  rw [hst] at hrow
  have hrow' := hrow
  rcases hrow.2 with ⟨rfl, hz⟩ | ⟨g, cap, cur, rfl, hg, hh, _⟩
  · refine ⟨none, 0, by rw [hz], ⟨?_, fun b hb => by simp [Chunk.fp, Value.ownBlock] at hb⟩⟩
    have := RowAt.of_owns hrow
    rwa [hz] at this ⊢
  · exact ⟨_, _, rfl, ⟨RowAt.of_owns hrow', fun b hb => by
      simp [Chunk.fp, Value.ownBlock] at hb
      subst hb
      exact ⟨hg, (Array.getElem?_eq_some_iff.1 hh).1⟩⟩⟩
end Go.Proofs.YtccfiohagbneaaaGreatDoor

/- What is proved: what packing a table does. Conditions: no limit at the disk, texts of bounded length. -/
namespace Go.Proofs.YtccfiohagbneaaaGreatDoor
open Go Go.J Go.RowKit
def keysE {β : Type} (m : List (List UInt8 × β)) : List (List UInt8) := (m.map Prod.fst).mergeSort (fun x y => decide (x ≤ y))
theorem keysE_len {β : Type} (m : List (List UInt8 × β)) : (keysE m).length = m.length := by unfold keysE; rw [List.length_mergeSort, List.length_map]
def rowOp (rows : Rws) (k : List UInt8) : Chg := ⟨k, (mget rows k).getD [], false⟩
def packL (rows : Rws) : List Chg := (keysE rows).map (rowOp rows)
def tabPack (T : Tb) (D : Dk) : Int × Tb × Dk :=
  if (D.fill (baseP T.dir) (packE (recordE (packL T.rows)))).1 ≠ 0 then ((D.fill (baseP T.dir) (packE (recordE (packL T.rows)))).1, T, (D.fill (baseP T.dir) (packE (recordE (packL T.rows)))).2)
  else (((D.fill (baseP T.dir) (packE (recordE (packL T.rows)))).2.fill T.log.p []).1, { T with log := T.log.reset ((D.fill (baseP T.dir) (packE (recordE (packL T.rows)))).2.fill T.log.p []).1 }, ((D.fill (baseP T.dir) (packE (recordE (packL T.rows)))).2.fill T.log.p []).2)
set_option maxHeartbeats 16000000 in
set_option maxRecDepth 100000 in
theorem tpack_c {Tp q mb lb : Nat} {D D' : Dk} {T T' : Tb} {fp : List Nat} {w0 : World} {e : Int} (hi : InL w0 [tabC Tp q T fp, dkC q mb lb D]) (hu : tabPack T D = (e, T', D')) (hl : T.dir.length ≤ 1099511000) (hlg : T.log.p.length ≤ 1099511620) (hno : D.Sm 1099511627776)
    (hr : (recordE (packL T.rows)).length ≤ 549755813888) (hn : T.rows.length ≤ 1048576) (hk : ∀ p ∈ T.rows, p.1.length ≤ 1099511627776) :
    Cal Tryz.prog 44 [.pointer (some ⟨Tp, 0, none⟩)] w0
      (fun v w' => v = .int .i64 e ∧ ∃ fp', MutL w0 w' [tabC Tp q T fp, dkC q mb lb D] [tabC Tp q T' fp', dkC q mb lb D']) := by
  refine Cal.mkL hi (by kernel_rfl) Tryz.func44 rfl rfl fun hS => ?_
  obtain ⟨_, ⟨m, L, fpl, rfl⟩, hfp, hS⟩ := St.objOpen hS
  replace hS : St w0 (fps [tabC Tp q T fp, dkC q mb lb D]) w0 [tbB Tp (some ⟨q, 0, none⟩) T.dir (some ⟨L, 0, none⟩) m, rowsC m T.rows, lgC L q T.log fpl, dkC q mb lb D] (ZL w0 [tabC Tp q T fp, dkC q mb lb D]) := hS
  obtain ⟨dir, rows, G⟩ := T
  dsimp only at hl hlg hr hn hk hS hu
  have hpkl := packE_len (recordE (packL rows))
  have hpn := putN_len10 (n := (recordE (packL rows)).length) (by omega)
  have hk7 : ([47, 98, 97, 115, 101, 95, 116] : List UInt8).length = 7 := rfl
  have hk5 : ([47, 98, 97, 115, 101] : List UInt8).length = 5 := rfl
  obtain ⟨t, ht⟩ : ∃ t, t = baseP dir ++ [95, 116] := ⟨_, rfl⟩
  have htl : t.length ≤ 1099511627 := by rw [ht]; simp; omega
  have hbt : dir ++ [47, 98, 97, 115, 101, 95, 116] = t := by rw [ht]; simp
  rcases h1 : D.write t (packE (recordE (packL rows))) with ⟨e1, D1⟩
  rcases h2 : D1.sync t with ⟨e2, D2⟩
  rcases h3 : D2.rename t (baseP dir) with ⟨e3, D3⟩
  rcases h4 : D3.fill G.p [] with ⟨e4, D4⟩
  have m1 : D1.Sm 1099511627776 := by have := hno.write (p := t) (s := packE (recordE (packL rows))) (by omega); rwa [h1] at this
  have m2 : D2.Sm 1099511627776 := by have := m1.sync (p := t); rwa [h2] at this
  have m3 : D3.Sm 1099511627776 := by have := m2.rename (p := t) (r := baseP dir); rwa [h3] at this
  have hu : (if e1 ≠ 0 then (e1, ⟨dir, rows, G⟩, D1) else if e2 ≠ 0 then (e2, ⟨dir, rows, G⟩, D2) else if e3 ≠ 0 then (e3, ⟨dir, rows, G⟩, D3) else (e4, ⟨dir, rows, G.reset e4⟩, D4)) = (e, T', D') := by
    have hf : D.fill (baseP dir) (packE (recordE (packL rows))) = if e1 ≠ 0 then (e1, D1) else if e2 ≠ 0 then (e2, D2) else (e3, D3) := by unfold Dk.fill; rw [← ht, h1]; dsimp only; rw [h2]; dsimp only; rw [h3]
    rw [← hu]
    unfold tabPack
    dsimp only
    rw [hf]
    by_cases c1 : e1 = 0
    · rw [if_neg (fun h => h c1), if_neg (fun h : e1 ≠ 0 => h c1)]
      by_cases c2 : e2 = 0
      · rw [if_neg (fun h => h c2), if_neg (fun h : e2 ≠ 0 => h c2)]
        dsimp only
        rw [h4]
      · rw [if_pos c2, if_pos c2, if_pos c2]
    · rw [if_pos c1, if_pos c1, if_pos c1]
  have hks : ∀ w0 x, w0.heap[x]? = some (.cells ⟨[.map (some m)]⟩ keysVT (0, 0)) → MapIs m (mmap encRow rows) w0 → Cal Tryz.prog 75 [.func (.func 155) ⟨[]⟩ ⟨[.pointer (some ⟨x, 0, none⟩)]⟩] w0 fun v w' => Upd [] w0 w' ∧ ∃ A cap, v = .slice A (keysE rows).length cap ∧
      New w0 w' (.own (.slice A (keysE rows).length cap) 9 1 (keysE rows).length (strs (keysE rows))) := fun w0 x hx hm => by
    have h := sortedV_c hx hm (by unfold mmap; rw [List.length_map]; omega) (fun p hp => by
      obtain ⟨y, hy, rfl⟩ := List.mem_map.1 hp
      exact hk y hy)
    have e1 : (mmap encRow rows).map Prod.fst = rows.map Prod.fst := by unfold mmap; rw [List.map_map]; rfl
    have e2 : (mmap encRow rows).length = rows.length := by unfold mmap; rw [List.length_map]
    rw [e1, e2] at h
    rw [keysE_len]
    exact h
  have hkl := keysE_len rows
  have hfin : ∀ (l : List (List UInt8)), l = keysE rows → l.map (rowOp rows) = packL rows := fun l h => by rw [h]; rfl
  repeat' (first | (show WL _ _ _ _ _ _ _; first | refine WL.pure rfl rfl rfl rfl ?_ | refine WL.nil ?_ | refine WL.load hS rfl rfl (LdOk.box Mm rfl) rfl rfl rfl ?_ | (refine WL.slit (t := 73) hS rfl rfl rfl rfl rfl ?_; intro w ob hS; have hS := hS.boxRow (n := 0) (size := 3) .here rfl (Nat.zero_le _)) | (refine WL.callG rfl rfl (mapsKeysV_n m _) rfl rfl rfl ?_; rintro v w ⟨x, rfl, hup, hnew⟩; have hS := hS.new hup hnew; clear hup hnew) | (refine WL.callG rfl rfl (hks _ _ (hS.holds _ (List.Mem.head _)) (hS.holds (rowsC m rows) Mm).1) rfl rfl rfl ?_; rintro v w ⟨hup, A, cap, rfl, hnew⟩; have hS := hS.new hup hnew; clear hup hnew)) | (show WC _ _ _ _ _ _; first | refine WC.seq ?_ | refine WC.region ?_ | refine WC.block ?_ | refine WC.skip ?_ | refine WC.condF rfl (by with_reducible rfl) ?_) | refine seqQ_n ?_)
  replace hS := hS.droplast2 (D := [.own (.slice (some ⟨ob, 0, none⟩) 0 0) 79 3 0 [], .own (.slice A (keysE rows).length cap) 9 1 (keysE rows).length (strs (keysE rows)), tbB Tp (some ⟨q, 0, none⟩) dir (some ⟨L, 0, none⟩) m, rowsC m rows, lgC L q G fpl, dkC q mb lb D]) Pu
  refine WC.loop (σ := Nat × List Chg × Option Addr × Nat) [0, 18, 19] (fun (k, l, A2, cap2) => [(3, .slice A2 l.length cap2), (20, .int .i64 (k : Int))])
    (fun (k, l, A2, cap2) w => k ≤ (keysE rows).length ∧ l = ((keysE rows).take k).map (rowOp rows) ∧ St w0 (fps [tabC Tp q ⟨dir, rows, G⟩ fp, dkC q mb lb D]) w [.own (.slice A2 l.length cap2) 79 3 l.length (chgs l), .own (.slice A (keysE rows).length cap) 9 1 (keysE rows).length (strs (keysE rows)), tbB Tp (some ⟨q, 0, none⟩) dir (some ⟨L, 0, none⟩) m, rowsC m rows, lgC L q G fpl, dkC q mb lb D] (ZL w0 [tabC Tp q ⟨dir, rows, G⟩ fp, dkC q mb lb D]))
    (fun (k, _) => (keysE rows).length - k) (0, [], some ⟨ob, 0, none⟩, 0) ⟨Nat.zero_le _, rfl, hS⟩ ⟨rfl, rfl, trivial⟩ ?_
  clear hS hks
  rintro ⟨k, l, A2, cap2⟩ g w ⟨hkk, hleq, hS⟩
  show WC _ _ _ (lf _ [(3, .slice A2 l.length cap2), (20, .int .i64 (k : Int))] _ _) _ _
  have hcap2 := (hS.own_len (List.Mem.head _)).2.2
  have hll : l.length = k := by rw [hleq, List.length_map, List.length_take]; omega
  by_cases hlt : k < (keysE rows).length
  · clear hu h1 h2 h3 h4 m1 m2 m3 hk
    have hx : (strs (keysE rows))[k * 1]? = some (str (keysE rows)[k]) := by rw [Nat.mul_one]; exact strs_at hlt
    have hnext : ((keysE rows).take (k + 1)).map (rowOp rows) = l ++ [rowOp rows (keysE rows)[k]] := by rw [List.take_succ_eq_append_getElem hlt, List.map_append, ← hleq]; rfl
    generalize (keysE rows)[k] = key at *
    have hlk := look_row1 rows key
    have hro : rowOp rows key = ⟨key, (mget rows key).getD [], false⟩ := rfl
    rw [hro] at hnext
    generalize (mget rows key).getD [] = val at *
    clear hleq hfin
    obtain ⟨rg, ro, rfl⟩ := hS.own_addr (List.Mem.tail _ (List.Mem.head _)) (Nat.lt_of_le_of_lt (Nat.zero_le k) hlt)
    repeat' (first | (show WL _ _ _ _ _ _ _; first | refine WL.pure rfl rfl rfl rfl ?_ | refine WL.nil ?_ | refine WL.load hS rfl rfl (LdOk.box Mm rfl) rfl rfl rfl ?_ | refine WL.add rfl rfl rfl (by omega) rfl rfl rfl ?_ | (refine WL.load hS rfl rfl (LdOk.ownAt Mm rfl ⟨_, rfl⟩ hx rfl) rfl rfl rfl ?_) | (refine WL.mget hS rfl rfl rfl rfl (.mk' Mm) hlk rfl rfl rfl ?_) | (refine WL.app hS rfl rfl rfl rfl (RdOk.box Mm) rfl rfl (fun A cap => Rp) (by omega) rfl rfl rfl ?_; intro A3 cap3 w hS) | refine WL.index rfl rfl rfl rfl (by first | with_reducible assumption | omega) rfl rfl rfl rfl ?_ | refine WL.build rfl rfl rfl rfl rfl ?_ | (refine WL.slit hS rfl rfl rfl rfl rfl ?_; intro w b hS)) | (show WC _ _ _ _ _ _; first | refine WC.seq ?_ | refine WC.region ?_ | refine WC.block ?_ | refine WC.skip ?_ | refine WC.condT rfl (decide_eq_true (by first | with_reducible assumption | omega)) ?_) | refine seqQ_n ?_ | refine blkQ_n ?_)
    exact rndQ_n (k + 1, l ++ [⟨key, val, false⟩], A3, cap3) ⟨by omega, hnext.symm, by
      have hS := hS.drop
      rw [List.length_append, ← chgs_snoc]
      exact hS⟩ (by show (keysE rows).length - (k + 1) < (keysE rows).length - k; omega) ⟨by rw [List.length_append]; rfl, vint (by omega), trivial⟩ ⟨rfl, rfl, rfl, trivial⟩
  · have hke : k = (keysE rows).length := by omega
    subst hke
    rw [List.take_length] at hleq
    obtain rfl : l = packL rows := hleq
    have hpl : (packL rows).length ≤ 1099511627776 := by omega
    clear hfin hk
    repeat' (first | (show WL _ _ _ _ _ _ _; first | refine WL.pure rfl rfl rfl rfl ?_ | refine WL.nil ?_ | refine WL.load hS rfl rfl (LdOk.box Mm rfl) rfl rfl rfl ?_ | (refine WL.cat rfl rfl rfl (by omega) rfl rfl rfl ?_; rw [hbt]) | (refine WL.callL (D := [dkC q mb lb D1]) hS Pu rfl rfl (fun hI => sync_c t hI.head hI.headB htl) rfl rfl rfl ?_; rintro v w ⟨rfl, hm⟩ hS; rw [h2] at hm ⊢; replace hS := hS _ (.of1 hm); clear hm) | (refine WL.callL (D := [lgC L q G fpl, dkC q mb lb D3]) hS Pu rfl rfl (fun hI => reset_c hI h4 hlg m3) rfl rfl rfl ?_; rintro v w ⟨rfl, fpl2, hm⟩ hS; replace hS := hS _ hm; clear hm)) | (show WC _ _ _ _ _ _; first | refine WC.seq ?_ | refine WC.region ?_ | refine WC.skip ?_ | refine WC.exit ?_ | refine WC.ret ?_ | (show WC _ _ (Code.region _ (List.toArray [_, _, _, _, _, _, _, _, _, _]) true) _ _ _; refine WC.drawL [dkC q mb lb D] hS Pu [0,1,2,3,4,5,9] [0,1,2,3,4,5,6,7,8,9] (by kernel_rfl) (by kernel_rfl) ?_; clear hS; intro w hS hM) | (show WC _ _ (Code.region _ (List.toArray [_, _, _, _, _, _, _, _, _, _, _, _]) true) _ _ _; refine WC.drawL [dkC q mb lb D2] hS Pu [0,1,2,3,4,5,6,7,8,9,11] [0,1,2,3,4,5,6,7,8,9,10,11] (by kernel_rfl) (by kernel_rfl) ?_; clear hS; intro w hS hM) | refine WC.condF rfl (decide_eq_false (by first | with_reducible assumption | omega)) ?_ | (refine WC.cond rfl (fun h => ?_) (fun h => ?_) <;> (try simp only [ZZ0, ZZ1, ZZ2, ZZ3, ZZ4, ZZ5, ZZ6, ZZ7, ZZ8, ZZ9, ZZ10, ZZ11, ZZ12, ZZ13, ZZ14, ZZ15] at h) <;> (try (exfalso; first | omega | contradiction)))) | (show WD _ _ _ _ _ _ _ _ _; first | refine WD.pure rfl rfl rfl rfl rfl ?_ | refine WD.nil ?_ | refine WD.load rfl rfl (LdOk.box Mm rfl) rfl rfl rfl rfl ?_ | (refine WD.cat rfl rfl rfl (by omega) rfl rfl rfl rfl ?_) | (refine WD.calls hS hM rfl rfl (record_c (packL rows) (St.ownSl (by decide) hS Mm) (by omega) hpl) rfl rfl rfl rfl rfl ?_; clear hS; rintro v w rfl hS) | (refine WD.calls hS hM rfl rfl (pack_c (recordE (packL rows)) _ (by omega)) rfl rfl rfl rfl rfl ?_; clear hS; rintro v w rfl hS) | (refine WD.callL (D := [dkC q mb lb D]) hS Pu (.refl _ _) rfl rfl (fun hI => write_c t (packE (recordE (packL rows))) hI.head hI.headB htl (hno.no _) (by omega) (hno.at_ _)) rfl rfl rfl rfl rfl ?_; rintro v w ⟨rfl, hm⟩; rw [h1] at hm ⊢; refine ⟨_, .of1 hm, fun hS hM => ?_⟩; clear hm) | (refine WD.callL (D := [dkC q mb lb D2]) hS Pu (.refl _ _) rfl rfl (fun hI => rename_c t (baseP dir) hI.head hI.headB htl (by rw [List.length_append]; omega) (m2.no _) (m2.at_ _) (m2.at_ _)) rfl rfl rfl rfl rfl ?_; rintro v w ⟨rfl, hm⟩; rw [h3] at hm ⊢; refine ⟨_, .of1 hm, fun hS hM => ?_⟩; clear hm)) | refine seqQ_n ?_ | refine seqQ_x ?_ | refine seqQ_r ?_ | refine blkQ_hit rfl ?_ | refine rndQ_x ?_)
    · rw [if_pos h] at hu
      cases hu
      have hS := St.objClose (φ := tabφ Tp q ⟨dir, rows, G⟩) (hS.pulls (D := [tbB Tp (some ⟨q, 0, none⟩) dir (some ⟨L, 0, none⟩) m, rowsC m rows, lgC L q G fpl]) Pu) ⟨m, L, fpl, rfl⟩
      exact fin1r rfl rfl ⟨rfl, _, hS.mutLp Pu⟩
    · rw [if_neg (fun hh => hh (by assumption)), if_pos h] at hu
      cases hu
      have hS := St.objClose (φ := tabφ Tp q ⟨dir, rows, G⟩) (hS.pulls (D := [tbB Tp (some ⟨q, 0, none⟩) dir (some ⟨L, 0, none⟩) m, rowsC m rows, lgC L q G fpl]) Pu) ⟨m, L, fpl, rfl⟩
      exact fin1r rfl rfl ⟨rfl, _, hS.mutLp Pu⟩
    · rw [if_neg (fun hh => hh (by assumption)), if_neg (fun hh => hh (by assumption)), if_pos h] at hu
      cases hu
      have hS := St.objClose (φ := tabφ Tp q ⟨dir, rows, G⟩) (hS.pulls (D := [tbB Tp (some ⟨q, 0, none⟩) dir (some ⟨L, 0, none⟩) m, rowsC m rows, lgC L q G fpl]) Pu) ⟨m, L, fpl, rfl⟩
      exact fin1r rfl rfl ⟨rfl, _, hS.mutLp Pu⟩
    · rw [if_neg (fun hh => hh (by assumption)), if_neg (fun hh => hh (by assumption)), if_neg (fun hh => hh (by assumption))] at hu
      cases hu
      have hS := St.objClose (φ := tabφ Tp q ⟨dir, rows, G.reset e⟩) (hS.pulls (D := [tbB Tp (some ⟨q, 0, none⟩) dir (some ⟨L, 0, none⟩) m, rowsC m rows, lgC L q (G.reset e) fpl2]) Pu) ⟨m, L, fpl2, rfl⟩
      exact fin1r rfl rfl ⟨rfl, _, hS.mutLp Pu⟩
end Go.Proofs.YtccfiohagbneaaaGreatDoor

/- What is proved: what committing a batch does. Conditions: no limit at the disk, texts of bounded length. -/
namespace Go.Proofs.YtccfiohagbneaaaGreatDoor
open Go Go.J Go.RowKit
def tabCommit (T : Tb) (D : Dk) (ops : List Chg) : Int × Tb × Dk :=
  if ops = [] then (0, T, D)
  else if (walAdd T.log D (recordE ops)).1 ≠ 0 then ((walAdd T.log D (recordE ops)).1, { T with log := (walAdd T.log D (recordE ops)).2.1 }, (walAdd T.log D (recordE ops)).2.2)
  else if 16 ≤ (walAdd T.log D (recordE ops)).2.1.recs.length then tabPack ⟨T.dir, applyE T.rows ops, (walAdd T.log D (recordE ops)).2.1⟩ (walAdd T.log D (recordE ops)).2.2
  else (0, ⟨T.dir, applyE T.rows ops, (walAdd T.log D (recordE ops)).2.1⟩, (walAdd T.log D (recordE ops)).2.2)
def bchLeft (T : Tb) (D : Dk) (m : Bch) : Bch := if (walAdd T.log D (recordE (m.map Prod.snd))).1 ≠ 0 then m else []
theorem mget_at : ∀ {m : Bch}, (m.map Prod.fst).Nodup → ∀ {k : Nat} (h : k < m.length), mget m m[k].1 = some m[k].2
  | [], _, k, h => by simp at h
  | (a, b) :: m, hn, 0, h => by simp [mget]
  | (a, b) :: m, hn, k + 1, h => by
    have hn' : a ∉ m.map Prod.fst ∧ (m.map Prod.fst).Nodup := by simpa using hn
    have hk : k < m.length := by simpa using h
    have hne : ¬ m[k].1 = a := fun e => hn'.1 (by rw [← e]; exact List.mem_map_of_mem (List.getElem_mem hk))
    show mget ((a, b) :: m) m[k].1 = some m[k].2
    unfold mget
    rw [if_neg hne]
    exact mget_at hn'.2 hk
theorem walAdd_len (G : Lg) (D : Dk) (r : List UInt8) : (walAdd G D r).2.1.recs.length ≤ G.recs.length + 1 ∧ (walAdd G D r).2.1.p = G.p := by
  unfold walAdd
  repeat' split
  · exact ⟨by dsimp only; omega, rfl⟩
  · exact ⟨by dsimp only; omega, rfl⟩
  · exact ⟨by simp [Lg.push], rfl⟩
theorem Dk.Sm.up {D : Dk} {B C : Nat} (h : D.Sm B) (hc : B ≤ C) : D.Sm C := ⟨h.1, fun x hx => Nat.le_trans (h.2 x hx) hc⟩
theorem Dk.Sm.append {D : Dk} {B C : Nat} (h : D.Sm B) {p s : List UInt8} (hs : s.length ≤ C) : (D.append p s).2.Sm (B + C) := by
  unfold Dk.append
  repeat' split
  · exact h.up (Nat.le_add_right _ _)
  · exact h.step.up (Nat.le_add_right _ _)
  · refine (h.step.up (Nat.le_add_right B C)).set ?_
    have := h.step.at_ p
    simp only [List.length_append]
    omega
theorem Dk.Sm.walAdd {D : Dk} {G : Lg} {r : List UInt8} (h : D.Sm 549755813888) (hr : r.length ≤ 4294967296) : (walAdd G D r).2.2.Sm 1099511627776 := by
  have hpk := packE_len r
  have hpn := putN_len10 (n := r.length) (by omega)
  have h1 : (D.append G.p (packE r)).2.Sm 1099511627776 := (h.append (C := 8589934592) (by omega)).up (by omega)
  unfold Go.Proofs.YtccfiohagbneaaaGreatDoor.walAdd
  repeat' split
  · exact h1
  · exact h1.sync
  · exact h1.sync
set_option maxHeartbeats 16000000 in
set_option maxRecDepth 100000 in
theorem bcommit_c {B Tp q mb lb : Nat} {D D' : Dk} {T T' : Tb} {m : Bch} {fb fp : List Nat} {w0 : World} {e : Int} (hi : InL w0 [bchC B (some ⟨Tp, 0, none⟩) m fb, tabC Tp q T fp, dkC q mb lb D]) (hu : tabCommit T D (m.map Prod.snd) = (e, T', D'))
    (hl : T.dir.length ≤ 1099511000) (hlg : T.log.p.length ≤ 1099511620) (hno : D.Sm 549755813888) (hr : (recordE (m.map Prod.snd)).length ≤ 1073741824) (hn : T.log.recs.length ≤ 4194303) (hml : m.length ≤ 1048576)
    (hr2 : (recordE (packL (applyE T.rows (m.map Prod.snd)))).length ≤ 549755813888) (hn2 : (applyE T.rows (m.map Prod.snd)).length ≤ 1048576) (hk2 : ∀ p ∈ applyE T.rows (m.map Prod.snd), p.1.length ≤ 1099511627776) :
    Cal Tryz.prog 42 [.pointer (some ⟨B, 0, none⟩)] w0
      (fun v w' => v = .int .i64 e ∧ ∃ fb' fp', MutL w0 w' [bchC B (some ⟨Tp, 0, none⟩) m fb, tabC Tp q T fp, dkC q mb lb D] [bchC B (some ⟨Tp, 0, none⟩) (bchLeft T D m) fb', tabC Tp q T' fp', dkC q mb lb D']) := by
  refine Cal.mkL hi (by kernel_rfl) Tryz.func42 rfl rfl fun hS => ?_
  obtain ⟨_, ⟨A, cap, mb2, rfl⟩, hfb, hS⟩ := St.objOpen hS
  replace hS : St w0 (fps [bchC B (some ⟨Tp, 0, none⟩) m fb, tabC Tp q T fp, dkC q mb lb D]) w0 [.box B 153 [.pointer (some ⟨Tp, 0, none⟩), .slice A m.length cap, .map (some mb2)], .own (.slice A m.length cap) 9 1 m.length (strs (m.map Prod.fst)), mapC mb2 (mmap encChg m), tabC Tp q T fp, dkC q mb lb D] _ := hS
  have hnd : (m.map Prod.fst).Nodup := by
    have h : ((mmap encChg m).map Prod.fst).Nodup := (hS.holds (mapC mb2 (mmap encChg m)) Mm).1.1
    have e1 : (mmap encChg m).map Prod.fst = m.map Prod.fst := by unfold mmap; rw [List.map_map]; rfl
    rwa [e1] at h
  replace hS := hS.pulls (D := [tabC Tp q T fp]) Pu
  obtain ⟨_, ⟨mr, L, fpl, rfl⟩, hfp, hS⟩ := St.objOpen hS
  obtain ⟨dir, rows, G⟩ := T
  dsimp only at hl hlg hr hn hS hu hr2 hn2 hk2
  replace hS : St w0 (fps [bchC B (some ⟨Tp, 0, none⟩) m fb, tabC Tp q ⟨dir, rows, G⟩ fp, dkC q mb lb D]) w0 [tbB Tp (some ⟨q, 0, none⟩) dir (some ⟨L, 0, none⟩) mr, rowsC mr rows, lgC L q G fpl, .box B 153 [.pointer (some ⟨Tp, 0, none⟩), .slice A m.length cap, .map (some mb2)], .own (.slice A m.length cap) 9 1 m.length (strs (m.map Prod.fst)), mapC mb2 (mmap encChg m), dkC q mb lb D] (ZL w0 [bchC B (some ⟨Tp, 0, none⟩) m fb, tabC Tp q ⟨dir, rows, G⟩ fp, dkC q mb lb D]) := hS
  by_cases hm0 : m = []
  · subst hm0
    have hu : (0, ⟨dir, rows, G⟩, D) = (e, T', D') := hu
    cases hu
    clear hnd
    have h0 : (([] : Bch).length : Int) = 0 := rfl
    repeat' (first | (show WL _ _ _ _ _ _ _; first | refine WL.pure rfl rfl rfl rfl ?_ | refine WL.nil ?_ | refine WL.load hS rfl rfl (LdOk.box Mm rfl) rfl rfl rfl ?_) | (show WC _ _ _ _ _ _; first | refine WC.seq ?_ | refine WC.region ?_ | refine WC.skip ?_ | refine WC.ret ?_ | refine WC.condF rfl (by with_reducible rfl) ?_ | refine WC.condT rfl (by decide) ?_) | refine seqQ_n ?_ | refine seqQ_r ?_)
    have hS := St.objClose (φ := tabφ Tp q ⟨dir, rows, G⟩) (hS.pulls (D := [tbB Tp (some ⟨q, 0, none⟩) dir (some ⟨L, 0, none⟩) mr, rowsC mr rows, lgC L q G fpl]) Pu) ⟨mr, L, fpl, rfl⟩
    have hS := St.objClose (φ := bchφ B (some ⟨Tp, 0, none⟩) []) (hS.pulls (D := [.box B 153 [.pointer (some ⟨Tp, 0, none⟩), .slice A ([] : Bch).length cap, .map (some mb2)], .own (.slice A ([] : Bch).length cap) 9 1 ([] : Bch).length (strs (([] : Bch).map Prod.fst)), mapC mb2 (mmap encChg [])]) Pu) ⟨A, cap, mb2, rfl⟩
    have hleft : bchLeft ⟨dir, rows, G⟩ D [] = [] := by unfold bchLeft; split <;> rfl
    rw [hleft]
    exact fin1r rfl rfl ⟨rfl, _, _, hS.mutLp Pu⟩
  have hmpos : 0 < m.length := List.length_pos_iff.2 hm0
  obtain ⟨ag, ao, rfl⟩ := hS.own_addr (A := A) (n := m.length) Mm hmpos
  repeat' (first | (show WL _ _ _ _ _ _ _; first | refine WL.pure rfl rfl rfl rfl ?_ | refine WL.nil ?_ | refine WL.load hS rfl rfl (LdOk.box Mm rfl) rfl rfl rfl ?_ | (refine WL.slit (t := 73) hS rfl rfl rfl rfl rfl ?_; intro w ob hS; have hS := hS.boxRow (n := 0) (size := 3) .here rfl (Nat.zero_le _))) | (show WC _ _ _ _ _ _; first | refine WC.seq ?_ | refine WC.region ?_ | refine WC.block ?_ | refine WC.skip ?_ | refine WC.condF rfl (by with_reducible rfl) ?_ | refine WC.condF rfl (decide_eq_false (by first | with_reducible assumption | omega)) ?_) | refine seqQ_n ?_)
  replace hS := hS.droplast2 (D := [.own (.slice (some ⟨ob, 0, none⟩) 0 0) 79 3 0 [], .own (.slice (some ⟨ag, ao, none⟩) m.length cap) 9 1 m.length (strs (m.map Prod.fst)), .box B 153 [.pointer (some ⟨Tp, 0, none⟩), .slice (some ⟨ag, ao, none⟩) m.length cap, .map (some mb2)], mapC mb2 (mmap encChg m), tbB Tp (some ⟨q, 0, none⟩) dir (some ⟨L, 0, none⟩) mr, rowsC mr rows, lgC L q G fpl, dkC q mb lb D]) Pu
  refine WC.loop (σ := Nat × List Chg × Option Addr × Nat) [0, 26, 27] (fun (k, l, A2, cap2) => [(3, .slice A2 l.length cap2), (28, .int .i64 (k : Int))])
    (fun (k, l, A2, cap2) w => k ≤ m.length ∧ l = (m.take k).map Prod.snd ∧ St w0 (fps [bchC B (some ⟨Tp, 0, none⟩) m fb, tabC Tp q ⟨dir, rows, G⟩ fp, dkC q mb lb D]) w [.own (.slice A2 l.length cap2) 79 3 l.length (chgs l), .own (.slice (some ⟨ag, ao, none⟩) m.length cap) 9 1 m.length (strs (m.map Prod.fst)), .box B 153 [.pointer (some ⟨Tp, 0, none⟩), .slice (some ⟨ag, ao, none⟩) m.length cap, .map (some mb2)], mapC mb2 (mmap encChg m), tbB Tp (some ⟨q, 0, none⟩) dir (some ⟨L, 0, none⟩) mr, rowsC mr rows, lgC L q G fpl, dkC q mb lb D] (ZL w0 [bchC B (some ⟨Tp, 0, none⟩) m fb, tabC Tp q ⟨dir, rows, G⟩ fp, dkC q mb lb D]))
    (fun (k, _) => m.length - k) (0, [], some ⟨ob, 0, none⟩, 0) ⟨Nat.zero_le _, rfl, hS⟩ ⟨rfl, rfl, trivial⟩ ?_
  clear hS
  rintro ⟨k, l, A2, cap2⟩ g w ⟨hkk, hleq, hS⟩
  show WC _ _ _ (lf _ [(3, .slice A2 l.length cap2), (28, .int .i64 (k : Int))] _ _) _ _
  have hcap2 := (hS.own_len (List.Mem.head _)).2.2
  have hll : l.length = k := by rw [hleq, List.length_map, List.length_take]; omega
  by_cases hlt : k < m.length
  · clear hu hk2 hr2 hn2 hr
    have hx : (strs (m.map Prod.fst))[k * 1]? = some (str m[k].1) := by rw [Nat.mul_one, strs_at (by rw [List.length_map]; exact hlt), List.getElem_map]
    have hnext : (m.take (k + 1)).map Prod.snd = l ++ [m[k].2] := by rw [List.take_succ_eq_append_getElem hlt, List.map_append, ← hleq]; rfl
    have hlk := look_chg1 m m[k].1
    rw [mget_at hnd hlt] at hlk
    replace hlk : lookV (encChg Chg0) (mmap encChg m) m[k].1 false = encChg m[k].2 := hlk
    generalize m[k].1 = key at *
    generalize m[k].2 = o at *
    obtain ⟨okey, oval, ogone⟩ := o
    clear hleq hnd
    repeat' (first | (show WL _ _ _ _ _ _ _; first | refine WL.pure rfl rfl rfl rfl ?_ | refine WL.nil ?_ | refine WL.load hS rfl rfl (LdOk.box Mm rfl) rfl rfl rfl ?_ | refine WL.add rfl rfl rfl (by omega) rfl rfl rfl ?_ | (refine WL.load hS rfl rfl (LdOk.ownAt Mm rfl ⟨_, rfl⟩ hx rfl) rfl rfl rfl ?_) | (refine WL.mget hS rfl rfl rfl rfl (.mk' Mm) hlk rfl rfl rfl ?_) | (refine WL.app hS rfl rfl rfl rfl (RdOk.box Mm) rfl rfl (fun A cap => Rp) (by omega) rfl rfl rfl ?_; intro A3 cap3 w hS) | refine WL.index rfl rfl rfl rfl (by first | with_reducible assumption | omega) rfl rfl rfl rfl ?_ | (refine WL.slit hS rfl rfl rfl rfl rfl ?_; intro w b hS)) | (show WC _ _ _ _ _ _; first | refine WC.seq ?_ | refine WC.region ?_ | refine WC.block ?_ | refine WC.skip ?_ | refine WC.condT rfl (decide_eq_true (by first | with_reducible assumption | omega)) ?_) | refine seqQ_n ?_ | refine blkQ_n ?_)
    exact rndQ_n (k + 1, l ++ [⟨okey, oval, ogone⟩], A3, cap3) ⟨by omega, hnext.symm, by
      have hS := hS.drop
      rw [List.length_append, ← chgs_snoc]
      exact hS⟩ (by show m.length - (k + 1) < m.length - k; omega) ⟨by rw [List.length_append]; rfl, vint (by omega), trivial⟩ ⟨rfl, rfl, rfl, trivial⟩
  · have hke : k = m.length := by omega
    subst hke
    rw [List.take_length] at hleq
    have hne : l ≠ [] := fun h => by rw [h] at hll; exact hm0 (List.eq_nil_of_length_eq_zero hll.symm)
    unfold tabCommit at hu
    unfold bchLeft
    dsimp only at hu ⊢
    rw [← hleq] at hu hr hr2 hn2 hk2 ⊢
    rw [if_neg hne] at hu
    have hwl := walAdd_len G D (recordE l)
    have hwsm := Dk.Sm.walAdd (G := G) (r := recordE l) hno (by omega)
    rcases hwa : walAdd G D (recordE l) with ⟨e1, G1, D1⟩
    rw [hwa] at hu hwl hwsm
    dsimp only at hu hwl hwsm ⊢
    have hpl : l.length ≤ 1099511627776 := by omega
    clear hnd hkk
    by_cases he1 : e1 = 0
    rotate_left
    · rw [if_pos he1] at hu
      cases hu
      rw [if_pos he1]
      clear hwsm hr2 hn2 hk2 hne
      repeat' (first | (show WL _ _ _ _ _ _ _; first | refine WL.pure rfl rfl rfl rfl ?_ | refine WL.nil ?_) | (show WC _ _ _ _ _ _; first | refine WC.seq ?_ | refine WC.region ?_ | refine WC.exit ?_ | refine WC.ret ?_ | (show WC _ _ (Code.region _ (List.toArray [_, _, _, _, _, _, _, _, _, _, _]) true) _ _ _; refine WC.drawL [lgC L q G fpl, dkC q mb lb D] hS Pu [0,1,2,3,4,5,6,7,10] [0,1,2,3,4,5,6,7,8,9,10] (by kernel_rfl) (by kernel_rfl) ?_; clear hS; intro w hS hM) | refine WC.condT rfl (decide_eq_true (by first | with_reducible assumption | omega)) ?_ | refine WC.condF rfl (decide_eq_false (by first | with_reducible assumption | omega)) ?_) | (show WD _ _ _ _ _ _ _ _ _; first | refine WD.pure rfl rfl rfl rfl rfl ?_ | refine WD.nil ?_ | refine WD.load rfl rfl (LdOk.box Mm rfl) rfl rfl rfl rfl ?_ | (refine WD.calls hS hM rfl rfl (record_c l (St.ownSl (by decide) hS Mm) (by omega) hpl) rfl rfl rfl rfl rfl ?_; clear hS; rintro v w rfl hS) | (refine WD.callL (D := [lgC L q G fpl, dkC q mb lb D]) hS Pu (.refl _ _) rfl rfl (fun hI => add_c (recordE l) hI hwa hlg hno.1 hr (by rw [Dk.step_at]; exact hno.at_ _) (by omega)) rfl rfl rfl rfl rfl ?_; rintro v w ⟨rfl, fpl2, hm⟩; refine ⟨_, hm, fun hS hM => ?_⟩; clear hm)) | refine seqQ_n ?_ | refine seqQ_x ?_ | refine seqQ_r ?_ | refine blkQ_hit rfl ?_ | refine rndQ_x ?_)
      have hS := St.objClose (φ := tabφ Tp q ⟨dir, rows, G1⟩) (hS.pulls (D := [tbB Tp (some ⟨q, 0, none⟩) dir (some ⟨L, 0, none⟩) mr, rowsC mr rows, lgC L q G1 fpl2]) Pu) ⟨mr, L, fpl2, rfl⟩
      have hS := St.objClose (φ := bchφ B (some ⟨Tp, 0, none⟩) m) (hS.pulls (D := [.box B 153 [.pointer (some ⟨Tp, 0, none⟩), .slice (some ⟨ag, ao, none⟩) m.length cap, .map (some mb2)], .own (.slice (some ⟨ag, ao, none⟩) m.length cap) 9 1 m.length (strs (m.map Prod.fst)), mapC mb2 (mmap encChg m)]) Pu) ⟨some ⟨ag, ao, none⟩, cap, mb2, rfl⟩
      exact fin1r rfl rfl ⟨rfl, _, _, hS.mutLp Pu⟩
    subst he1
    rw [if_neg (fun h => h rfl)] at hu ⊢
    by_cases h16 : 16 ≤ G1.recs.length
    · rw [if_pos h16] at hu
      have hlg1 : G1.p.length ≤ 1099511620 := by rw [hwl.2]; exact hlg
      have hwl1 := hwl.1
      clear hwl hne
      repeat' (first | (show WL _ _ _ _ _ _ _; first | refine WL.pure rfl rfl rfl rfl ?_ | refine WL.nil ?_ | refine WL.load hS rfl rfl (LdOk.box Mm rfl) rfl rfl rfl ?_ | (refine WL.callL (D := [tbB Tp (some ⟨q, 0, none⟩) dir (some ⟨L, 0, none⟩) mr, rowsC mr rows, chgC A2 cap2 l]) hS Pu rfl rfl (fun hI => apply_c hI hpl) rfl rfl rfl ?_; rintro v w ⟨rfl, hm⟩ hS; replace hS := hS _ hm; clear hm) | (refine WL.mmake hS rfl rfl rfl rfl rfl ?_; intro w nb hS) | (refine WL.callL (D := [lgC L q G1 fpl2]) hS Pu rfl rfl (fun hI => records_c hI (by omega)) rfl rfl rfl ?_; rintro v w ⟨A4, cap4, rfl, hm⟩ hS; replace hS := hS _ hm; clear hm) | (have hS := St.objClose (φ := tabφ Tp q ⟨dir, applyE rows l, G1⟩) (hS.pulls (D := [tbB Tp (some ⟨q, 0, none⟩) dir (some ⟨L, 0, none⟩) mr, rowsC mr (applyE rows l), lgC L q G1 fpl2]) Pu) ⟨mr, L, fpl2, rfl⟩; refine WL.callL (D := [tabC Tp q ⟨dir, applyE rows l, G1⟩ _, dkC q mb lb D1]) hS Pu rfl rfl (fun hI => tpack_c hI hu hl hlg1 hwsm hr2 hn2 hk2) rfl rfl rfl ?_; rintro v w ⟨rfl, fp3, hm⟩ hS; replace hS := hS _ hm; clear hm) | (refine WL.store hS rfl rfl rfl Sb rfl rfl rfl ?_; intro w hS)) | (show WC _ _ _ _ _ _; first | refine WC.seq ?_ | refine WC.region ?_ | refine WC.skip ?_ | refine WC.exit ?_ | refine WC.ret ?_ | (show WC _ _ (Code.region _ (List.toArray [_, _, _, _, _, _, _, _, _, _, _]) true) _ _ _; refine WC.drawL [lgC L q G fpl, dkC q mb lb D] hS Pu [0,1,2,3,4,5,6,7,10] [0,1,2,3,4,5,6,7,8,9,10] (by kernel_rfl) (by kernel_rfl) ?_; clear hS; intro w hS hM) | refine WC.condF rfl (by decide) ?_ | refine WC.condT rfl (decide_eq_true (by first | with_reducible assumption | omega)) ?_ | refine WC.condF rfl (decide_eq_false (by first | with_reducible assumption | omega)) ?_) | (show WD _ _ _ _ _ _ _ _ _; first | refine WD.pure rfl rfl rfl rfl rfl ?_ | refine WD.nil ?_ | refine WD.load rfl rfl (LdOk.box Mm rfl) rfl rfl rfl rfl ?_ | (refine WD.calls hS hM rfl rfl (record_c l (St.ownSl (by decide) hS Mm) (by omega) hpl) rfl rfl rfl rfl rfl ?_; clear hS; rintro v w rfl hS) | (refine WD.callL (D := [lgC L q G fpl, dkC q mb lb D]) hS Pu (.refl _ _) rfl rfl (fun hI => add_c (recordE l) hI hwa hlg hno.1 hr (by rw [Dk.step_at]; exact hno.at_ _) (by omega)) rfl rfl rfl rfl rfl ?_; rintro v w ⟨rfl, fpl2, hm⟩; refine ⟨_, hm, fun hS hM => ?_⟩; clear hm)) | refine seqQ_n ?_ | refine seqQ_x ?_ | refine seqQ_r ?_ | refine blkQ_hit rfl ?_ | refine rndQ_x ?_)
      have hS := hS.nilRow 9 1
      have hS := St.objClose (φ := bchφ B (some ⟨Tp, 0, none⟩) []) (hS.pulls (D := [.box B 153 [.pointer (some ⟨Tp, 0, none⟩), .slice none 0 0, .map (some nb)], .own (.slice none 0 0) 9 1 0 [], mapC nb []]) Pu) ⟨none, 0, nb, rfl⟩
      exact fin1r rfl rfl ⟨rfl, _, _, hS.mutLp Pu⟩
    · rw [if_neg h16] at hu
      cases hu
      have hwl1 := hwl.1
      clear hwl hne hwsm hr2 hn2 hk2
      repeat' (first | (show WL _ _ _ _ _ _ _; first | refine WL.pure rfl rfl rfl rfl ?_ | refine WL.nil ?_ | refine WL.load hS rfl rfl (LdOk.box Mm rfl) rfl rfl rfl ?_ | (refine WL.callL (D := [tbB Tp (some ⟨q, 0, none⟩) dir (some ⟨L, 0, none⟩) mr, rowsC mr rows, chgC A2 cap2 l]) hS Pu rfl rfl (fun hI => apply_c hI hpl) rfl rfl rfl ?_; rintro v w ⟨rfl, hm⟩ hS; replace hS := hS _ hm; clear hm) | (refine WL.mmake hS rfl rfl rfl rfl rfl ?_; intro w nb hS) | (refine WL.callL (D := [lgC L q G1 fpl2]) hS Pu rfl rfl (fun hI => records_c hI (by omega)) rfl rfl rfl ?_; rintro v w ⟨A4, cap4, rfl, hm⟩ hS; replace hS := hS _ hm; clear hm) | (refine WL.store hS rfl rfl rfl Sb rfl rfl rfl ?_; intro w hS)) | (show WC _ _ _ _ _ _; first | refine WC.seq ?_ | refine WC.region ?_ | refine WC.skip ?_ | refine WC.exit ?_ | refine WC.ret ?_ | (show WC _ _ (Code.region _ (List.toArray [_, _, _, _, _, _, _, _, _, _, _]) true) _ _ _; refine WC.drawL [lgC L q G fpl, dkC q mb lb D] hS Pu [0,1,2,3,4,5,6,7,10] [0,1,2,3,4,5,6,7,8,9,10] (by kernel_rfl) (by kernel_rfl) ?_; clear hS; intro w hS hM) | refine WC.condF rfl (by decide) ?_ | refine WC.condF rfl (decide_eq_false (by first | with_reducible assumption | omega)) ?_) | (show WD _ _ _ _ _ _ _ _ _; first | refine WD.pure rfl rfl rfl rfl rfl ?_ | refine WD.nil ?_ | refine WD.load rfl rfl (LdOk.box Mm rfl) rfl rfl rfl rfl ?_ | (refine WD.calls hS hM rfl rfl (record_c l (St.ownSl (by decide) hS Mm) (by omega) hpl) rfl rfl rfl rfl rfl ?_; clear hS; rintro v w rfl hS) | (refine WD.callL (D := [lgC L q G fpl, dkC q mb lb D]) hS Pu (.refl _ _) rfl rfl (fun hI => add_c (recordE l) hI hwa hlg hno.1 hr (by rw [Dk.step_at]; exact hno.at_ _) (by omega)) rfl rfl rfl rfl rfl ?_; rintro v w ⟨rfl, fpl2, hm⟩; refine ⟨_, hm, fun hS hM => ?_⟩; clear hm)) | refine seqQ_n ?_ | refine seqQ_x ?_ | refine blkQ_hit rfl ?_ | refine rndQ_x ?_)
      have hS := St.objClose (φ := tabφ Tp q ⟨dir, applyE rows l, G1⟩) (hS.pulls (D := [tbB Tp (some ⟨q, 0, none⟩) dir (some ⟨L, 0, none⟩) mr, rowsC mr (applyE rows l), lgC L q G1 fpl2]) Pu) ⟨mr, L, fpl2, rfl⟩
      have hS := hS.nilRow 9 1
      have hS := St.objClose (φ := bchφ B (some ⟨Tp, 0, none⟩) []) (hS.pulls (D := [.box B 153 [.pointer (some ⟨Tp, 0, none⟩), .slice none 0 0, .map (some nb)], .own (.slice none 0 0) 9 1 0 [], mapC nb []]) Pu) ⟨none, 0, nb, rfl⟩
      exact fin1r rfl rfl ⟨rfl, _, _, hS.mutLp Pu⟩
end Go.Proofs.YtccfiohagbneaaaGreatDoor

/- What is proved: a quiet disk on which a table lies: what the disk's calls make of it. Conditions: as each names them. -/
namespace Go.Proofs.YtccfiohagbneaaaGreatDoor
open Go Go.J Go.RowKit
abbrev sysP : List UInt8 := [115, 121, 115]
abbrev sysL : List UInt8 := [115, 121, 115, 47, 108, 111, 103]
abbrev sysLT : List UInt8 := [115, 121, 115, 47, 108, 111, 103, 95, 116]
abbrev sysB : List UInt8 := [115, 121, 115, 47, 98, 97, 115, 101]
abbrev sysBT : List UInt8 := [115, 121, 115, 47, 98, 97, 115, 101, 95, 116]
def sysF (p : List UInt8) : Prop := p = sysL ∨ p = sysLT ∨ p = sysB ∨ p = sysBT
theorem sysF_ok {p : List UInt8} (h : sysF p) : checkE p 6 = 0 ∧ deepE p = 2 ∧ parentE p = sysP ∧ p ≠ sysP := by
  rcases h with rfl | rfl | rfl | rfl
  all_goals exact ⟨by kernel_rfl, by kernel_rfl, by kernel_rfl, by decide⟩
def Dk.get (D : Dk) (p : List UInt8) : Option It := mget D.items p
theorem Dk.at_get (D : Dk) (p : List UInt8) : D.at p = (D.get p).getD It0 := rfl
theorem Dk.has_get (D : Dk) (p : List UInt8) : D.has p = (D.get p).isSome := rfl
structure Sys (D : Dk) : Prop where
  up : D.down = false
  calm : D.armed < 0
  lim : D.limits = []
  nd : (D.items.map Prod.fst).Nodup
  dir : (D.at sysP).dir = true
  has : D.has sysP = true
  files : ∀ p, sysF p → (D.at p).dir = false
theorem Dk.get_set (D : Dk) (p y : List UInt8) (x : It) : (D.set p x).get y = if y = p then some { x with stamp := IntKind.i64.wrap (D.stamps + 1) } else D.get y := mget_set _ _ _ _
theorem Dk.get_put (D : Dk) (p y : List UInt8) (x : It) : Dk.get { D with items := mset D.items p x } y = if y = p then some x else D.get y := mget_set _ _ _ _
theorem Dk.get_del (D : Dk) (h : (D.items.map Prod.fst).Nodup) (p y : List UInt8) : (D.del p).get y = if y = p then none else D.get y := mget_del _ h _ _
theorem Dk.get_step (D : Dk) (p : List UInt8) : D.step.get p = D.get p := by unfold Dk.get; rw [Dk.step_items]
section
variable {D : Dk}
theorem Sys.stepE (h : Sys D) : D.stepE = 0 := by
  have := h.calm
  unfold Dk.stepE
  rw [if_neg (by omega)]
theorem Sys.step_eq (h : Sys D) : D.step = { D with steps := IntKind.i64.wrap (D.steps + 1) } := by
  have := h.calm
  unfold Dk.step
  rw [if_neg (by omega), if_neg (by omega)]
theorem Sys.step (h : Sys D) : Sys D.step := by
  rw [h.step_eq]
  exact ⟨h.up, h.calm, h.lim, h.nd, h.dir, h.has, h.files⟩
theorem Sys.may (h : Sys D) {p : List UInt8} (hp : sysF p) : D.may p 1 = 0 := by
  obtain ⟨h1, h2, _, _⟩ := sysF_ok hp
  unfold Dk.may
  rw [h.up, if_neg (by decide), if_neg (fun hh => hh h1), if_neg (by rw [h2]; decide)]
theorem Sys.under (h : Sys D) {p : List UInt8} (hp : sysF p) : D.under p = true := by
  obtain ⟨_, h2, h3, _⟩ := sysF_ok hp
  unfold Dk.under
  rw [if_neg (by rw [h2]; decide), h3, h.dir]
theorem Sys.file (h : Sys D) {p : List UInt8} (hp : sysF p) (hh : D.has p = true) : D.file p = 0 := by
  unfold Dk.file
  rw [h.may hp, if_neg (fun hh => hh rfl), if_pos hh, h.files p hp, if_neg (by decide)]
theorem Sys.set (h : Sys D) {p : List UInt8} {x : It} (hp : sysF p) (hx : x.dir = false) : Sys (D.set p x) := by
  obtain ⟨_, _, _, hne⟩ := sysF_ok hp
  refine ⟨h.up, h.calm, h.lim, mset_nodup h.nd _ _, ?_, ?_, fun y hy => ?_⟩
  · rw [Dk.at_get, Dk.get_set, if_neg (Ne.symm hne)]; exact h.dir
  · rw [Dk.has_get, Dk.get_set, if_neg (Ne.symm hne)]; exact h.has
  · rw [Dk.at_get, Dk.get_set]
    by_cases e : y = p
    · rw [if_pos e]; exact hx
    · rw [if_neg e]; exact h.files y hy
theorem Sys.put (h : Sys D) {p : List UInt8} {x : It} (hp : sysF p) (hx : x.dir = false) : Sys { D with items := mset D.items p x } := by
  obtain ⟨_, _, _, hne⟩ := sysF_ok hp
  refine ⟨h.up, h.calm, h.lim, mset_nodup h.nd _ _, ?_, ?_, fun y hy => ?_⟩
  · rw [Dk.at_get, Dk.get_put, if_neg (Ne.symm hne)]; exact h.dir
  · rw [Dk.has_get, Dk.get_put, if_neg (Ne.symm hne)]; exact h.has
  · rw [Dk.at_get, Dk.get_put]
    by_cases e : y = p
    · rw [if_pos e]; exact hx
    · rw [if_neg e]; exact h.files y hy
theorem Sys.del (h : Sys D) {p : List UInt8} (hp : sysF p) : Sys (D.del p) := by
  obtain ⟨_, _, _, hne⟩ := sysF_ok hp
  refine ⟨h.up, h.calm, h.lim, mdel_nodup h.nd _, ?_, ?_, fun y hy => ?_⟩
  · rw [Dk.at_get, Dk.get_del _ h.nd, if_neg (Ne.symm hne)]; exact h.dir
  · rw [Dk.has_get, Dk.get_del _ h.nd, if_neg (Ne.symm hne)]; exact h.has
  · rw [Dk.at_get, Dk.get_del _ h.nd]
    by_cases e : y = p
    · rw [if_pos e]; rfl
    · rw [if_neg e]; exact h.files y hy
theorem Sys.append (h : Sys D) {p r : List UInt8} (hp : sysF p) (hh : D.has p = true) : (D.append p r).1 = 0 ∧ Sys (D.append p r).2 ∧ ∀ y, (D.append p r).2.get y = if y = p then some { D.at p with data := (D.at p).data ++ r, loose := true, stamp := IntKind.i64.wrap (D.stamps + 1) } else D.get y := by
  have e : D.append p r = (0, D.step.set p { D.at p with data := (D.at p).data ++ r, loose := true }) := by
    unfold Dk.append
    rw [h.file hp hh, if_neg (fun hh => hh rfl), h.stepE, if_neg (fun hh => hh rfl), Dk.step_at]
  rw [e]
  refine ⟨rfl, h.step.set hp (h.files p hp), fun y => ?_⟩
  rw [Dk.get_set, Dk.get_step, h.step_eq]
theorem Sys.sync (h : Sys D) {p : List UInt8} (hp : sysF p) (hh : D.has p = true) : (D.sync p).1 = 0 ∧ Sys (D.sync p).2 ∧ ∀ y, (D.sync p).2.get y = if y = p then some { D.at p with kept := (D.at p).data, loose := false, anew := false } else D.get y := by
  have e : D.sync p = (0, { D.step with items := mset D.step.items p { D.at p with kept := (D.at p).data, loose := false, anew := false } }) := by
    unfold Dk.sync
    rw [h.file hp hh, if_neg (fun hh => hh rfl), h.stepE, if_neg (fun hh => hh rfl), Dk.step_at]
  rw [e]
  refine ⟨rfl, h.step.put hp (h.files p hp), fun y => ?_⟩
  rw [Dk.get_put, Dk.get_step]
theorem Sys.write (h : Sys D) {p r : List UInt8} (hp : sysF p) : (D.write p r).1 = 0 ∧ Sys (D.write p r).2 ∧ ∀ y, (D.write p r).2.get y = if y = p then some { D.at p with data := r, loose := true, anew := true, stamp := IntKind.i64.wrap (D.stamps + 1) } else D.get y := by
  have e : D.write p r = (0, D.step.set p { D.at p with data := r, loose := true, anew := true }) := by
    unfold Dk.write
    rw [h.may hp, if_neg (fun hh => hh rfl), h.under hp, if_neg (by decide), h.files p hp, if_neg (by decide), h.stepE, if_neg (fun hh => hh rfl)]
  rw [e]
  refine ⟨rfl, h.step.set hp (h.files p hp), fun y => ?_⟩
  rw [Dk.get_set, Dk.get_step, h.step_eq]
theorem Sys.rename (h : Sys D) {p r : List UInt8} (hp : sysF p) (hr : sysF r) (hh : D.has p = true) : (D.rename p r).1 = 0 ∧ Sys (D.rename p r).2 ∧ ∀ y, (D.rename p r).2.get y = if y = r then some { D.at p with stamp := IntKind.i64.wrap (D.stamps + 1) } else if y = p then none else D.get y := by
  have e : D.rename p r = (0, (D.step.del p).set r (D.at p)) := by
    unfold Dk.rename
    rw [h.may hp, if_neg (fun hh => hh rfl), h.may hr, if_neg (fun hh => hh rfl), hh, h.under hr, if_neg (by simp), h.files p hp, h.files r hr, if_neg (by simp), h.stepE, if_neg (fun hh => hh rfl)]
  rw [e]
  refine ⟨rfl, (h.step.del hp).set hr (h.files p hp), fun y => ?_⟩
  rw [Dk.get_set, Dk.get_del _ h.step.nd, Dk.get_step]
  have : (D.step.del p).stamps = D.stamps := by rw [h.step_eq]; rfl
  rw [this]
theorem has_of_get {D : Dk} {p : List UInt8} {x : It} (h : D.get p = some x) : D.has p = true := by rw [Dk.has_get, h]; rfl
theorem at_of_get {D : Dk} {p : List UInt8} {x : It} (h : D.get p = some x) : D.at p = x := by rw [Dk.at_get, h]; rfl
theorem Sys.fill (h : Sys D) {p s : List UInt8} (hp : sysF p) (ht : sysF (p ++ [95, 116])) (hne : p ++ [95, 116] ≠ p) : (D.fill p s).1 = 0 ∧ Sys (D.fill p s).2 ∧ (∃ x, (D.fill p s).2.get p = some x ∧ x.dir = false ∧ x.data = s ∧ x.kept = s ∧ x.loose = false ∧ x.anew = false) ∧ (D.fill p s).2.get (p ++ [95, 116]) = none ∧ ∀ y, y ≠ p → y ≠ p ++ [95, 116] → (D.fill p s).2.get y = D.get y := by
  obtain ⟨w1, w2, w3⟩ := h.write (r := s) ht
  have g1 := w3 (p ++ [95, 116])
  rw [if_pos rfl] at g1
  obtain ⟨s1, s2, s3⟩ := w2.sync ht (has_of_get g1)
  have g2 := s3 (p ++ [95, 116])
  rw [if_pos rfl, at_of_get g1] at g2
  obtain ⟨r1, r2, r3⟩ := s2.rename ht hp (has_of_get g2)
  have e : D.fill p s = ((D.write (p ++ [95, 116]) s).2.sync (p ++ [95, 116])).2.rename (p ++ [95, 116]) p := by
    unfold Dk.fill
    rw [if_neg (fun hh => hh w1), if_neg (fun hh => hh s1)]
  rw [e]
  refine ⟨r1, r2, ⟨_, by rw [r3, if_pos rfl], ?_⟩, by rw [r3, if_neg hne, if_pos rfl], fun y h1 h2 => by rw [r3, if_neg h1, if_neg h2, s3, if_neg h2, w3, if_neg h2]⟩
  rw [at_of_get g2]
  exact ⟨h.files _ ht, rfl, rfl, rfl, rfl⟩
end
end Go.Proofs.YtccfiohagbneaaaGreatDoor

/- What is proved: changes that were written are read back; rows by what they answer. Conditions: texts of bounded length. -/
namespace Go.Proofs.YtccfiohagbneaaaGreatDoor
open Go Go.J Go.RowKit
def normO (o : Chg) : Chg := if o.gone then ⟨o.key, [], true⟩ else o
structure SmO (o : Chg) : Prop where
  key : o.key.length < 9223372036854775808
  val : o.val.length < 9223372036854775808
theorem drop_app {α : Type} (a b : List α) : (a ++ b).drop a.length = b := by simp
theorem opE_rec (o : Chg) (t : List UInt8) (h : SmO o) : opE (recO o ++ t) = (normO o, (recO o).length, 0) := by
  obtain ⟨key, val, gone⟩ := o
  have hk := h.key
  have hv := h.val
  dsimp only at hk hv
  have p0 : putN 0 = [0] := putN_small (by decide)
  have p1 : putN 1 = [1] := putN_small (by decide)
  have hd : ∀ (c : UInt8) (r : List UInt8), ([c] ++ r).drop 1 = r := fun _ _ => rfl
  rcases gone with _ | _
  · have e : recO ⟨key, val, false⟩ ++ t = [1] ++ (putN key.length ++ (key ++ (putN val.length ++ (val ++ t)))) := by simp [recO, textE]
    have hu : uintE ([1] ++ (putN key.length ++ (key ++ (putN val.length ++ (val ++ t))))) = (1, 1, 0) := by
      have := uintE_put 1 (by omega) (putN key.length ++ (key ++ (putN val.length ++ (val ++ t))))
      rwa [p1] at this
    have h2 := rtextE_text key (putN val.length ++ (val ++ t)) hk
    have h3 := rtextE_text val t hv
    have hl : (recO ⟨key, val, false⟩).length = 1 + (key.length + (putN key.length).length) + (val.length + (putN val.length).length) := by simp [recO, textE]; omega
    rw [e, hl]
    rw [opE_put (x := key) (y := val) (v := key.length + (putN key.length).length) (z := val.length + (putN val.length).length) hu (by rw [hd]; exact h2) (by
      rw [show 1 + (key.length + (putN key.length).length) = ([1] ++ (putN key.length ++ key)).length by simp; omega, show [1] ++ (putN key.length ++ (key ++ (putN val.length ++ (val ++ t)))) = ([1] ++ (putN key.length ++ key)) ++ (putN val.length ++ (val ++ t)) by simp, drop_app]
      exact h3)]
    rfl
  · have e : recO ⟨key, val, true⟩ ++ t = [0] ++ (putN key.length ++ (key ++ t)) := by simp [recO, textE]
    have hu : uintE ([0] ++ (putN key.length ++ (key ++ t))) = (0, 1, 0) := by
      have := uintE_put 0 (by omega) (putN key.length ++ (key ++ t))
      rwa [p0] at this
    have h2 := rtextE_text key t hk
    have hl : (recO ⟨key, val, true⟩).length = 1 + (key.length + (putN key.length).length) := by simp [recO, textE]; omega
    rw [e, hl]
    rw [opE_gone (x := key) (v := key.length + (putN key.length).length) hu (by rw [hd]; exact h2)]
    rfl
theorem opsF_rec : ∀ (l : List Chg) (t : List UInt8), (∀ o ∈ l, SmO o) → opsF l.length (l.flatMap recO ++ t) = (l.map normO, (l.flatMap recO).length, 0)
  | [], t, _ => rfl
  | o :: l, t, h => by
    have ho := opE_rec o (l.flatMap recO ++ t) (h o (List.mem_cons_self ..))
    have ih := opsF_rec l t (fun x hx => h x (List.mem_cons_of_mem _ hx))
    rw [List.flatMap_cons, List.append_assoc, List.length_cons, opsF_s, ho, if_neg (fun h => h rfl)]
    dsimp only
    rw [drop_app, ih, if_neg (fun h => h rfl)]
    simp
theorem opsE_record (l : List Chg) (h : ∀ o ∈ l, SmO o) (hl : l.length < 9223372036854775808) : opsE (recordE l) = (l.map normO, 0) := by
  have hu := uintE_put l.length hl (l.flatMap recO)
  have hf := opsF_rec l [] h
  rw [List.append_nil] at hf
  rw [opsE_of (show uintE (recordE l) = _ from hu)]
  rw [show recordE l = putN l.length ++ l.flatMap recO from rfl, drop_app, hf]
  unfold opsFin
  rw [if_neg (fun h => h rfl)]
  dsimp only
  rw [if_neg (by simp), List.nil_append]
def Clean (l : List Chg) : Prop := ∀ o ∈ l, o.gone = true → o.val = []
theorem norm_clean {l : List Chg} (h : Clean l) : l.map normO = l := by
  have : ∀ o ∈ l, normO o = o := fun o ho => by
    unfold normO
    split
    · rename_i hg
      have := h o ho hg
      obtain ⟨k, v, g⟩ := o
      dsimp only at hg this
      subst hg this
      rfl
    · rfl
  rw [List.map_congr_left this, List.map_id']
def setF (f : List UInt8 → Option (List UInt8)) (o : Chg) : List UInt8 → Option (List UInt8) := fun y => if y = o.key then (if o.gone then none else some o.val) else f y
def applyF (f : List UInt8 → Option (List UInt8)) (l : List Chg) : List UInt8 → Option (List UInt8) := l.foldl setF f
def RowsAre (rows : Rws) (f : List UInt8 → Option (List UInt8)) : Prop := (rows.map Prod.fst).Nodup ∧ ∀ k, mget rows k = f k
theorem RowsAre.nil : RowsAre [] fun _ => none := ⟨by simp, fun _ => rfl⟩
theorem RowsAre.one {rows : Rws} {f : List UInt8 → Option (List UInt8)} (h : RowsAre rows f) (o : Chg) : RowsAre (if o.gone then mdel rows o.key else mset rows o.key o.val) (setF f o) := by
  unfold setF
  split
  · refine ⟨mdel_nodup h.1 _, fun k => ?_⟩
    rw [mget_del _ h.1, h.2]
  · refine ⟨mset_nodup h.1 _ _, fun k => ?_⟩
    rw [mget_set, h.2]
theorem RowsAre.apply : ∀ {l : List Chg} {rows : Rws} {f : List UInt8 → Option (List UInt8)}, RowsAre rows f → RowsAre (applyE rows l) (applyF f l)
  | [], _, _, h => h
  | o :: l, rows, f, h => by
    rw [applyE_cons]
    exact RowsAre.apply (h.one o)
theorem keysE_perm {β : Type} (m : List (List UInt8 × β)) : (keysE m).Perm (m.map Prod.fst) := List.mergeSort_perm _ _
theorem mget_of_mem : ∀ {rows : Rws} {k v : List UInt8}, (rows.map Prod.fst).Nodup → (k, v) ∈ rows → mget rows k = some v
  | [], _, _, _, h => by cases h
  | (a, b) :: r, k, v, hn, h => by
    have hn' : a ∉ r.map Prod.fst ∧ (r.map Prod.fst).Nodup := by simpa using hn
    unfold mget
    rcases List.mem_cons.1 h with h | h
    · cases h; rw [if_pos rfl]
    · have : ¬ k = a := fun e => hn'.1 (by rw [← e]; exact List.mem_map_of_mem (f := Prod.fst) h)
      rw [if_neg this]
      exact mget_of_mem hn'.2 h
theorem packL_perm {rows : Rws} (hn : (rows.map Prod.fst).Nodup) : (packL rows).Perm (rows.map fun p => (⟨p.1, p.2, false⟩ : Chg)) := by
  unfold packL
  refine ((keysE_perm rows).map _).trans ?_
  rw [List.map_map]
  have : ∀ p ∈ rows, (rowOp rows ∘ Prod.fst) p = (⟨p.1, p.2, false⟩ : Chg) := fun p hp => by
    show (⟨p.1, (mget rows p.1).getD [], false⟩ : Chg) = _
    rw [mget_of_mem hn hp]
    rfl
  rw [List.map_congr_left this]
theorem packL_gone (rows : Rws) : ∀ o ∈ packL rows, o.gone = false := fun o ho => by
  obtain ⟨k, _, rfl⟩ := List.mem_map.1 ho
  rfl
theorem packL_clean (rows : Rws) : Clean (packL rows) := fun o ho h => by rw [packL_gone rows o ho] at h; cases h
theorem packL_keys (rows : Rws) : (packL rows).map (·.key) = keysE rows := by unfold packL; rw [List.map_map]; exact List.map_id'' (fun _ => rfl) _
def szO (o : Chg) : Nat := o.key.length + o.val.length + 32
def szL (l : List Chg) : Nat := (l.map szO).sum
def szR (rows : Rws) : Nat := (rows.map fun p => p.1.length + p.2.length + 32).sum
theorem recO_len (o : Chg) (h : SmO o) : (recO o).length ≤ szO o := by
  have h1 := putN_len10 (n := o.key.length) (by have := h.key; omega)
  have h2 := putN_len10 (n := o.val.length) (by have := h.val; omega)
  unfold recO szO
  split
  · simp [textE]; omega
  · simp [textE]; omega
theorem recordE_len (l : List Chg) (h : ∀ o ∈ l, SmO o) (hl : l.length < 9223372036854775808) : (recordE l).length ≤ 10 + szL l := by
  have h1 := putN_len10 (n := l.length) (by omega)
  have h2 : ∀ l : List Chg, (∀ o ∈ l, SmO o) → (l.flatMap recO).length ≤ szL l := by
    intro l
    induction l with
    | nil => intro _; simp
    | cons o l ih =>
      intro h
      have a := recO_len o (h o (List.mem_cons_self ..))
      have b := ih fun x hx => h x (List.mem_cons_of_mem _ hx)
      simp only [List.flatMap_cons, List.length_append, szL, List.map_cons, List.sum_cons] at b ⊢
      omega
  have := h2 l h
  unfold recordE
  rw [List.length_append]
  omega
theorem szL_len (l : List Chg) : 32 * l.length ≤ szL l := by
  induction l with
  | nil => simp
  | cons o l ih => simp only [szL, List.map_cons, List.sum_cons, List.length_cons, szO] at ih ⊢; omega
theorem szL_mem {l : List Chg} {o : Chg} (h : o ∈ l) : szO o ≤ szL l := by
  induction l with
  | nil => cases h
  | cons x l ih =>
    simp only [szL, List.map_cons, List.sum_cons] at ih ⊢
    rcases List.mem_cons.1 h with rfl | h
    · omega
    · have := ih h; omega
theorem szR_len (rows : Rws) : 32 * rows.length ≤ szR rows := by
  induction rows with
  | nil => simp
  | cons o l ih => simp only [szR, List.map_cons, List.sum_cons, List.length_cons] at ih ⊢; omega
theorem szR_mem {rows : Rws} {p : List UInt8 × List UInt8} (h : p ∈ rows) : p.1.length + p.2.length + 32 ≤ szR rows := by
  induction rows with
  | nil => cases h
  | cons x l ih =>
    simp only [szR, List.map_cons, List.sum_cons] at ih ⊢
    rcases List.mem_cons.1 h with rfl | h
    · omega
    · have := ih h; omega
theorem szR_set (rows : Rws) (k v : List UInt8) : szR (mset rows k v) ≤ szR rows + (k.length + v.length + 32) := by
  induction rows with
  | nil => simp [mset, szR]
  | cons p r ih =>
    obtain ⟨a, u⟩ := p
    unfold mset
    split
    · rename_i h; subst h; simp only [szR, List.map_cons, List.sum_cons]; omega
    · simp only [szR, List.map_cons, List.sum_cons] at ih ⊢; omega
theorem szR_del (rows : Rws) (k : List UInt8) : szR (mdel rows k) ≤ szR rows := by
  induction rows with
  | nil => simp [mdel]
  | cons p r ih =>
    obtain ⟨a, u⟩ := p
    unfold mdel
    split
    · simp only [szR, List.map_cons, List.sum_cons]; omega
    · simp only [szR, List.map_cons, List.sum_cons] at ih ⊢; omega
theorem szR_apply : ∀ (l : List Chg) (rows : Rws), szR (applyE rows l) ≤ szR rows + szL l
  | [], rows => by simp [applyE, szL]
  | o :: l, rows => by
    rw [applyE_cons]
    have h := szR_apply l (if o.gone then mdel rows o.key else mset rows o.key o.val)
    have h2 : szR (if o.gone then mdel rows o.key else mset rows o.key o.val) ≤ szR rows + szO o := by
      split
      · exact Nat.le_trans (szR_del _ _) (Nat.le_add_right _ _)
      · exact szR_set _ _ _
    simp only [szL, List.map_cons, List.sum_cons] at h ⊢
    omega
theorem szL_perm {l l' : List Chg} (h : l.Perm l') : szL l = szL l' := (h.map szO).sum_nat
theorem szL_pack {rows : Rws} (hn : (rows.map Prod.fst).Nodup) : szL (packL rows) = szR rows := by
  rw [szL_perm (packL_perm hn)]
  unfold szL szR
  rw [List.map_map]
  rfl
theorem smO_of {l : List Chg} (h : szL l < 9223372036854775808) : ∀ o ∈ l, SmO o := fun o ho => by
  have := szL_mem ho
  unfold szO at this
  exact ⟨by omega, by omega⟩
end Go.Proofs.YtccfiohagbneaaaGreatDoor

/- What is proved: a quiet disk with a table: opened, committed to, packed. Conditions: texts and lists of bounded length. -/
namespace Go.Proofs.YtccfiohagbneaaaGreatDoor
open Go Go.J Go.RowKit
def Kept (D : Dk) (p s : List UInt8) : Prop := ∃ x, D.get p = some x ∧ x.dir = false ∧ x.data = s ∧ x.kept = s ∧ x.loose = false ∧ x.anew = false
def baseIs (D : Dk) : Option (List Chg) → Prop
  | none => D.get sysB = none
  | some ops => Kept D sysB (packE (recordE ops))
structure TabSt (D : Dk) (bs : Option (List Chg)) (ls : List (List Chg)) : Prop where
  sys : Sys D
  log : Kept D sysL (frames (ls.map recordE))
  base : baseIs D bs
structure TabWf (bs : Option (List Chg)) (ls : List (List Chg)) : Prop where
  few : ls.length < 16
  clean : ∀ l ∈ ls, Clean l
  small : ∀ l ∈ ls, szL l ≤ 1073000000
  bclean : Clean (bs.getD [])
  bsmall : szL (bs.getD []) ≤ 274877906944
def rowsOf (bs : Option (List Chg)) (ls : List (List Chg)) : Rws := ls.foldl applyE (applyE [] (bs.getD []))
def rowsF (bs : Option (List Chg)) (ls : List (List Chg)) : List UInt8 → Option (List UInt8) := ls.foldl applyF (applyF (fun _ => none) (bs.getD []))
theorem rowsAre_fold : ∀ {ls : List (List Chg)} {rows : Rws} {f : List UInt8 → Option (List UInt8)}, RowsAre rows f → RowsAre (ls.foldl applyE rows) (ls.foldl applyF f)
  | [], _, _, h => h
  | l :: ls, _, _, h => rowsAre_fold (ls := ls) h.apply
theorem rowsOf_are (bs : Option (List Chg)) (ls : List (List Chg)) : RowsAre (rowsOf bs ls) (rowsF bs ls) := rowsAre_fold RowsAre.nil.apply
theorem szR_fold : ∀ (ls : List (List Chg)) (rows : Rws) (C : Nat), (∀ l ∈ ls, szL l ≤ C) → szR (ls.foldl applyE rows) ≤ szR rows + ls.length * C
  | [], rows, C, _ => by simp
  | l :: ls, rows, C, h => by
    have h1 := szR_fold ls (applyE rows l) C fun x hx => h x (List.mem_cons_of_mem _ hx)
    have h2 := szR_apply l rows
    have h3 := h l (List.mem_cons_self ..)
    simp only [List.foldl_cons, List.length_cons, Nat.add_mul]
    omega
theorem TabWf.rows {bs : Option (List Chg)} {ls : List (List Chg)} (h : TabWf bs ls) : szR (rowsOf bs ls) ≤ 274877906944 + 17168000000 := by
  have h1 := szR_fold ls (applyE [] (bs.getD [])) 1073000000 h.small
  have h2 := szR_apply (bs.getD []) []
  have h3 := h.bsmall
  have h4 : ls.length * 1073000000 ≤ 16 * 1073000000 := Nat.mul_le_mul_right _ (by have := h.few; omega)
  have h5 : szR ([] : Rws) = 0 := rfl
  unfold rowsOf
  omega
theorem replay_recs : ∀ (ls : List (List Chg)) (rows : Rws), (∀ l ∈ ls, Clean l) → (∀ l ∈ ls, szL l ≤ 1073000000) → replay rows (ls.map recordE) = (0, ls.foldl applyE rows)
  | [], rows, _, _ => rfl
  | l :: ls, rows, hc, hs => by
    have h1 := hs l (List.mem_cons_self ..)
    have h2 := szL_len l
    have ho := opsE_record l (smO_of (by omega)) (by omega)
    rw [norm_clean (hc l (List.mem_cons_self ..))] at ho
    rw [List.map_cons, replay_cons, ho, if_neg (fun h => h rfl)]
    exact replay_recs ls _ (fun x hx => hc x (List.mem_cons_of_mem _ hx)) (fun x hx => hs x (List.mem_cons_of_mem _ hx))
theorem rec_small {l : List Chg} (h : szL l ≤ 1073000000) : (recordE l).length ≤ 1073741824 := by
  have h2 := szL_len l
  have := recordE_len l (smO_of (by omega)) (by omega)
  omega
theorem frames_len : ∀ (rs : List (List UInt8)) (C : Nat), (∀ r ∈ rs, r.length ≤ C) → C < 9223372036854775808 → (frames rs).length ≤ rs.length * (C + 14)
  | [], C, _, _ => by simp [frames]
  | r :: rs, C, h, hC => by
    have h1 := frames_len rs C (fun x hx => h x (List.mem_cons_of_mem _ hx)) hC
    have h2 := h r (List.mem_cons_self ..)
    have h3 := packE_len r
    have h4 := putN_len10 (n := r.length) (by omega)
    simp only [frames, List.flatMap_cons, List.length_append, List.length_cons, Nat.add_mul] at h1 ⊢
    omega
theorem readE_pack0 (s : List UInt8) (h : s.length < 9223372036854775808) : readE (packE s) = (s, (packE s).length, 0) := by
  have := readE_pack s [] h
  rwa [List.append_nil] at this
section
variable {D : Dk} {bs : Option (List Chg)} {ls : List (List Chg)}
theorem Kept.has {p s : List UInt8} (h : Kept D p s) : D.has p = true := by obtain ⟨x, h1, _⟩ := h; exact has_of_get h1
theorem Kept.data {p s : List UInt8} (h : Kept D p s) : (D.at p).data = s ∧ (D.at p).dir = false := by
  obtain ⟨x, h1, h2, h3, _⟩ := h
  rw [at_of_get h1]
  exact ⟨h3, h2⟩
theorem Kept.read {p s : List UInt8} (h : Kept D p s) (hs : Sys D) : D.read p = (s, 0) := by
  obtain ⟨h1, h2⟩ := h.data
  unfold Dk.read
  rw [hs.up, if_neg (by decide), h.has, if_neg (by decide), h2, if_neg (by decide), h1]
theorem Kept.kind {p s : List UInt8} (h : Kept D p s) : D.kind p = 2 := by
  obtain ⟨h1, h2⟩ := h.data
  unfold Dk.kind
  rw [h.has, if_pos rfl, h2, if_neg (by decide)]
theorem Sys.kindP (h : Sys D) : D.kind sysP = 1 := by
  unfold Dk.kind
  rw [h.has, if_pos rfl, h.dir, if_pos rfl]
theorem TabSt.walOpen (h : TabSt D bs ls) (hw : TabWf bs ls) : walOpen D sysL = (0, some ⟨sysL, ls.map recordE, false⟩, D) := by
  have hrs : ∀ r ∈ ls.map recordE, r.length < 9223372036854775808 := fun r hr => by
    obtain ⟨l, hl, rfl⟩ := List.mem_map.1 hr
    have := rec_small (hw.small l hl)
    omega
  unfold Go.Proofs.YtccfiohagbneaaaGreatDoor.walOpen
  rw [h.log.kind, if_neg (by decide), h.log.read h.sys]
  dsimp only
  rw [if_neg (fun h => h rfl), scanE_whole _ hrs]
  rfl
theorem TabSt.open (h : TabSt D bs ls) (hw : TabWf bs ls) : tabOpen D sysP = (0, some ⟨sysP, rowsOf bs ls, ⟨sysL, ls.map recordE, false⟩⟩, D) := by
  have hmk : tabMk D sysP = (0, D) := by unfold tabMk; rw [h.sys.kindP, if_neg (by decide)]
  have hwo := h.walOpen hw
  have hb : tabBase D sysP = (0, applyE [] (bs.getD [])) := by
    have hbp : baseP sysP = sysB := rfl
    unfold tabBase
    rw [hbp]
    have hbase := h.base
    cases bs with
    | none =>
      have hbase : D.get sysB = none := hbase
      have hk : D.kind sysB = 0 := by unfold Dk.kind; rw [Dk.has_get, hbase]; rfl
      rw [if_pos hk]
      rfl
    | some ops =>
      have hbase : Kept D sysB (packE (recordE ops)) := hbase
      have hsm : szL ops ≤ 274877906944 := hw.bsmall
      have hl := szL_len ops
      have hrl := recordE_len ops (smO_of (by omega)) (by omega)
      have ho := opsE_record ops (smO_of (by omega)) (by omega)
      rw [norm_clean (show Clean ops from hw.bclean)] at ho
      rw [hbase.kind, if_neg (by decide)]
      unfold tabLoad
      rw [hbp, hbase.read h.sys]
      dsimp only
      rw [if_neg (fun h => h rfl), readE_pack0 _ (by omega)]
      dsimp only
      rw [if_neg (fun h => h rfl), if_neg (Nat.lt_irrefl _), ho]
      dsimp only
      rw [if_neg (fun h => h rfl)]
      rfl
  unfold tabOpen
  rw [hmk]
  dsimp only
  rw [if_neg (fun h => h rfl), hb]
  dsimp only
  rw [if_neg (fun h => h rfl), show logP sysP = sysL from rfl, hwo]
  unfold tabLog
  dsimp only
  rw [replay_recs ls _ hw.clean hw.small, if_neg (fun h => h rfl)]
  rfl
theorem sysF_L : sysF sysL := .inl rfl
theorem sysF_LT : sysF sysLT := .inr (.inl rfl)
theorem sysF_B : sysF sysB := .inr (.inr (.inl rfl))
theorem sysF_BT : sysF sysBT := .inr (.inr (.inr rfl))
theorem Sys.walAdd (h : Sys D) {s : List UInt8} (hk : Kept D sysL s) (recs : List (List UInt8)) (dmg : Bool) (r : List UInt8) :
    ∃ D', walAdd ⟨sysL, recs, dmg⟩ D r = (0, ⟨sysL, recs ++ [r], dmg⟩, D') ∧ Sys D' ∧ Kept D' sysL (s ++ packE r) ∧ ∀ y, y ≠ sysL → D'.get y = D.get y := by
  obtain ⟨a1, a2, a3⟩ := h.append (r := packE r) sysF_L hk.has
  have g1 := a3 sysL
  rw [if_pos rfl] at g1
  obtain ⟨s1, s2, s3⟩ := a2.sync sysF_L (has_of_get g1)
  have g2 := s3 sysL
  rw [if_pos rfl, at_of_get g1] at g2
  obtain ⟨d1, d2⟩ := hk.data
  refine ⟨((D.append sysL (packE r)).2.sync sysL).2, ?_, s2, ⟨_, g2, d2, by rw [← d1], by rw [← d1], rfl, rfl⟩, fun y hy => by rw [s3, if_neg hy, a3, if_neg hy]⟩
  unfold Go.Proofs.YtccfiohagbneaaaGreatDoor.walAdd
  dsimp only
  rw [if_neg (fun hh => hh a1), if_neg (fun hh => hh s1)]
  rfl
theorem baseIs_same {D D' : Dk} (h : D'.get sysB = D.get sysB) {bs : Option (List Chg)} (hb : baseIs D bs) : baseIs D' bs := by
  cases bs with
  | none => exact h.trans hb
  | some ops => obtain ⟨x, h1, h2⟩ := hb; exact ⟨x, h.trans h1, h2⟩
theorem TabSt.pack (h : Sys D) (rows : Rws) (recs : List (List UInt8)) (dmg : Bool) : ∃ D', tabPack ⟨sysP, rows, ⟨sysL, recs, dmg⟩⟩ D = (0, ⟨sysP, rows, ⟨sysL, [], dmg⟩⟩, D') ∧ TabSt D' (some (packL rows)) [] := by
  obtain ⟨f1, f2, f3, f4, f5⟩ := h.fill (p := sysB) (s := packE (recordE (packL rows))) sysF_B sysF_BT (by decide)
  obtain ⟨g1, g2, g3, g4, g5⟩ := f2.fill (p := sysL) (s := []) sysF_L sysF_LT (by decide)
  refine ⟨_, ?_, ⟨g2, g3, ?_⟩⟩
  · unfold tabPack
    dsimp only
    rw [show baseP sysP = sysB from rfl, if_neg (fun hh => hh f1), g1]
    rfl
  · obtain ⟨x, h1, h2⟩ := f3
    exact ⟨x, by rw [g5 sysB (by decide) (by decide)]; exact h1, h2⟩
theorem map_snoc (ls : List (List Chg)) (ops : List Chg) : ls.map recordE ++ [recordE ops] = (ls ++ [ops]).map recordE := by simp
theorem TabSt.commit (h : TabSt D bs ls) (rows : Rws) (ops : List Chg) (hne : ops ≠ []) (hf : ls.length < 15) :
    ∃ D', tabCommit ⟨sysP, rows, ⟨sysL, ls.map recordE, false⟩⟩ D ops = (0, ⟨sysP, applyE rows ops, ⟨sysL, (ls ++ [ops]).map recordE, false⟩⟩, D') ∧ TabSt D' bs (ls ++ [ops]) := by
  obtain ⟨D', hwa, hs, hk, hg⟩ := h.sys.walAdd h.log (ls.map recordE) false (recordE ops)
  refine ⟨D', ?_, hs, ?_, baseIs_same (hg _ (by decide)) h.base⟩
  · unfold tabCommit
    dsimp only
    rw [if_neg hne, hwa]
    dsimp only
    rw [if_neg (fun hh => hh rfl), if_neg (by simp; omega), map_snoc]
  · rw [← map_snoc, frames_app, frames_one]
    exact hk
end
def Dt0 : Dk := ⟨[(sysP, { It0 with dir := true }), (sysL, ⟨false, [], [], false, false, 2⟩)], [], 4, 2, -1, false⟩
theorem open_first : tabOpen Dk0 sysP = (0, some ⟨sysP, [], ⟨sysL, [], false⟩⟩, Dt0) := by kernel_rfl
theorem Dt0_st : TabSt Dt0 none [] := by
  refine ⟨⟨rfl, by decide, rfl, by decide, by kernel_rfl, by kernel_rfl, fun p hp => ?_⟩, ⟨⟨false, [], [], false, false, 2⟩, by kernel_rfl, rfl, rfl, rfl, rfl, rfl⟩, (show Dt0.get sysB = none by kernel_rfl)⟩
  rcases hp with rfl | rfl | rfl | rfl
  all_goals kernel_rfl
theorem Dk0_sm {B : Nat} : Dk0.Sm B := ⟨rfl, by simp [Dk0]⟩
end Go.Proofs.YtccfiohagbneaaaGreatDoor

/- What is proved: a table on a quiet disk, opened and committed to by the program; the law's awake. Conditions: texts and lists of bounded length. -/
namespace Go.Proofs.YtccfiohagbneaaaGreatDoor
open Go Go.J Go.RowKit
theorem applyE_len : ∀ (l : List Chg) (rows : Rws), (applyE rows l).length ≤ rows.length + l.length
  | [], rows => Nat.le_refl _
  | o :: l, rows => by
    rw [applyE_cons]
    have h := applyE_len l (if o.gone then mdel rows o.key else mset rows o.key o.val)
    have h2 : (if o.gone then mdel rows o.key else mset rows o.key o.val).length ≤ rows.length + 1 := by
      split
      · exact Nat.le_trans (mdel_sub _ _).length_le (Nat.le_succ _)
      · have h3 := mset_keys rows o.key o.val
        have h4 := congrArg List.length h3
        rw [List.length_map] at h4
        rw [h4]
        split
        · rw [List.length_map]; omega
        · rw [List.length_append, List.length_map]; simp
    simp only [List.length_cons]
    omega
theorem pack_small {rows : Rws} (hn : (rows.map Prod.fst).Nodup) {B : Nat} (h : szR rows ≤ B) (hB : B ≤ 500000000000) : (recordE (packL rows)).length ≤ B + 10 ∧ (packE (recordE (packL rows))).length ≤ B + 34 := by
  have h1 := szL_pack hn
  have h2 := szL_len (packL rows)
  have h3 := recordE_len (packL rows) (smO_of (by omega)) (by omega)
  have h4 := packE_len (recordE (packL rows))
  have h5 := putN_len10 (n := (recordE (packL rows)).length) (by omega)
  omega
theorem tabPack_sm {T : Tb} {D : Dk} {B : Nat} (h : D.Sm B) (hp : (packE (recordE (packL T.rows))).length ≤ B) : (tabPack T D).2.2.Sm B := by
  unfold tabPack
  split
  · exact h.fill hp
  · exact (h.fill hp).fill (Nat.zero_le _)
theorem walAdd_smB {D : Dk} {G : Lg} {r : List UInt8} {B : Nat} (h : D.Sm B) (hr : r.length ≤ 1073741824) : (walAdd G D r).2.2.Sm (B + 1073742000) := by
  have hpk := packE_len r
  have hpn := putN_len10 (n := r.length) (by omega)
  have h1 : (D.append G.p (packE r)).2.Sm (B + 1073742000) := h.append (by omega)
  unfold walAdd
  repeat' split
  · exact h1
  · exact h1.sync
  · exact h1.sync
theorem tabCommit_sm {T : Tb} {D : Dk} {ops : List Chg} {B : Nat} (h : D.Sm B) (hr : (recordE ops).length ≤ 1073741824) (hp : (packE (recordE (packL (applyE T.rows ops)))).length ≤ B + 1073742000) : (tabCommit T D ops).2.2.Sm (B + 1073742000) := by
  have h1 := walAdd_smB (G := T.log) h hr
  unfold tabCommit
  repeat' split
  · exact h.up (Nat.le_add_right _ _)
  · exact h1
  · exact tabPack_sm h1 hp
  · exact h1
theorem Dt0_sm {B : Nat} : Dt0.Sm B := by
  refine ⟨rfl, fun x hx => ?_⟩
  simp only [Dt0, List.mem_cons, List.not_mem_nil, or_false] at hx
  rcases hx with rfl | rfl
  · exact Nat.zero_le _
  · exact Nat.zero_le _
theorem topenFirst_c {q mb lb : Nat} {w0 : World} (hi : InL w0 [dkC q mb lb Dk0]) :
    Cal Tryz.prog 36 [.pointer (some ⟨q, 0, none⟩), str sysP] w0 (fun v w' => ∃ Tp fp, v = .tuple #[.pointer (some ⟨Tp, 0, none⟩), .int .i64 0] ∧ MutL w0 w' [dkC q mb lb Dk0] [tabC Tp q ⟨sysP, [], ⟨sysL, [], false⟩⟩ fp, dkC q mb lb Dt0]) := by
  have h := topen_c sysP hi (by decide) Dk0_sm (fun e G D' h => by
    have h2 : walOpen (tabMk Dk0 sysP).2 (logP sysP) = (0, some ⟨sysL, [], false⟩, Dt0) := by kernel_rfl
    rw [h2] at h
    cases h
    exact ⟨by decide, by simp⟩)
  rw [open_first] at h
  exact h
theorem topenSt_c {q mb lb : Nat} {D : Dk} {bs : Option (List Chg)} {ls : List (List Chg)} {w0 : World} (hi : InL w0 [dkC q mb lb D]) (hst : TabSt D bs ls) (hw : TabWf bs ls) (hno : D.Sm 1099511627776) :
    Cal Tryz.prog 36 [.pointer (some ⟨q, 0, none⟩), str sysP] w0 (fun v w' => ∃ Tp fp, v = .tuple #[.pointer (some ⟨Tp, 0, none⟩), .int .i64 0] ∧ MutL w0 w' [dkC q mb lb D] [tabC Tp q ⟨sysP, rowsOf bs ls, ⟨sysL, ls.map recordE, false⟩⟩ fp, dkC q mb lb D]) := by
  have h := topen_c sysP hi (by decide) hno (fun e G D' h => by
    have hmk : (tabMk D sysP).2 = D := by unfold tabMk; rw [hst.sys.kindP, if_neg (by decide)]
    rw [hmk, show logP sysP = sysL from rfl, hst.walOpen hw] at h
    cases h
    refine ⟨by rw [List.length_map]; have := hw.few; omega, fun r hr => ?_⟩
    obtain ⟨l, hl, rfl⟩ := List.mem_map.1 hr
    have := rec_small (hw.small l hl)
    omega)
  rw [hst.open hw] at h
  exact h
set_option maxHeartbeats 8000000 in
set_option maxRecDepth 100000 in
theorem tawake_c (w0 : World) : Cal Tryz.prog 35 [] w0 (fun v w' => Upd [] w0 w' ∧ v = .bool true) := by
  refine Cal.mk' (by kernel_rfl) Tryz.func35 rfl rfl fun hS => ?_
  obtain ⟨ops, hops⟩ : ∃ ops : List Chg, ops = [⟨[107], [118], false⟩] := ⟨_, rfl⟩
  have hsz : szL ops = 34 := by rw [hops]; rfl
  have hcl : Clean ops := by rw [hops]; intro o ho hg; simp at ho; rw [ho] at hg; cases hg
  have hrec := rec_small (l := ops) (by omega)
  obtain ⟨D1, hcm, hst⟩ := Dt0_st.commit [] ops (by rw [hops]; simp) (by decide)
  replace hst : TabSt D1 none [ops] := hst
  have hra : RowsAre (applyE [] ops) (applyF (fun _ => none) ops) := RowsAre.nil.apply
  have hsr : szR (applyE [] ops) ≤ 34 := by have := szR_apply ops []; rw [hsz] at this; exact this
  obtain ⟨hp1, hp2⟩ := pack_small hra.1 hsr (by omega)
  have hsm1 : D1.Sm 1099511627776 := by
    have := tabCommit_sm (T := ⟨sysP, [], ⟨sysL, [], false⟩⟩) (D := Dt0) (ops := ops) (B := 1000) Dt0_sm hrec (by dsimp only; omega)
    rw [show tabCommit ⟨sysP, [], ⟨sysL, [], false⟩⟩ Dt0 ops = _ from hcm] at this
    exact this.up (by omega)
  have hwf : TabWf none [ops] := ⟨(show 1 < 16 by decide), by simpa using hcl, by simp [hsz], fun o ho => by simp at ho, by decide⟩
  have hrow : rowsOf none [ops] = applyE [] ops := rfl
  have hget : getE (applyE [] ops) [107] = ([118], true) := by rw [hops]; rfl
  have hm : ([([107], ⟨[107], [118], false⟩)] : Bch).map Prod.snd = ops := by rw [hops]; rfl
  have hlen : (applyE [] ops).length ≤ 1048576 := by have := applyE_len ops []; rw [hops] at this ⊢; simp at this; omega
  have hkey : ∀ p ∈ applyE [] ops, p.1.length ≤ 1099511627776 := fun p hp => by have := szR_mem hp; omega
  have hreca : recordE [⟨[97], [98], false⟩] = [1, 1, 1, 97, 1, 98] := by
    have p1 : putN 1 = [1] := putN_small (by decide)
    simp [recordE, recO, textE, p1]
  have hrecl : (recordE [⟨[97], [98], false⟩]).length = 6 := by rw [hreca]; rfl
  clear hsz hcl hra hsr hp2
  have hcm' : tabCommit ⟨sysP, [], ⟨sysL, [], false⟩⟩ Dt0 (([([107], ⟨[107], [118], false⟩)] : Bch).map Prod.snd) = (0, ⟨sysP, applyE [] ops, ⟨sysL, [recordE ops], false⟩⟩, D1) := by rw [hm]; exact hcm
  clear hcm
  have hp1 : (recordE (packL (applyE [] ops))).length ≤ 549755813888 := by omega
  repeat' (first | (show WL _ _ _ _ _ _ _; first | refine WL.pure rfl rfl rfl rfl ?_ | refine WL.nil ?_ | (refine WL.callG rfl rfl (dnew_c _) rfl rfl rfl ?_; rintro v w ⟨hu, q, mb, lb, rfl, hn⟩; replace hS := hS.new hu hn; clear hu hn) | (refine WL.callL (D := [dkC q mb lb Dk0]) hS Pu rfl rfl (fun hI => topenFirst_c hI) rfl rfl rfl ?_; rintro v w ⟨Tp, fp, rfl, hmu⟩ hS; replace hS := hS _ hmu; clear hmu) | (refine WL.callG rfl rfl (begin_c _) rfl rfl rfl ?_; rintro v w ⟨hu, B, fb, rfl, hn⟩; replace hS := hS.new hu hn; clear hu hn) | (refine WL.callG rfl rfl (bput_c [107] [118] (hS.holds _ (List.Mem.head _)) (hS.inB_of (List.Mem.head _)) (by decide)) rfl rfl rfl ?_; rintro v w ⟨rfl, fb2, hmut⟩; replace hS := hS.mut hmut .here; clear hmut) | (refine WL.callL (D := [bchC B (some ⟨Tp, 0, none⟩) [([107], ⟨[107], [118], false⟩)] fb2, tabC Tp q ⟨sysP, [], ⟨sysL, [], false⟩⟩ fp, dkC q mb lb Dt0]) hS Pu rfl rfl (fun hI => bcommit_c hI hcm' (by decide) (by decide) Dt0_sm (by rw [hm]; exact hrec) (by decide) (by decide) (by rw [hm]; exact hp1) (by rw [hm]; exact hlen) (by rw [hm]; exact hkey)) rfl rfl rfl ?_; rintro v w ⟨rfl, fb3, fp2, hmu⟩ hS; replace hS := hS _ hmu; clear hmu) | (refine WL.callL (D := [dkC q mb lb D1]) hS Pu rfl rfl (fun hI => topenSt_c hI hst hwf hsm1) rfl rfl rfl ?_; rintro v w ⟨Tp2, fp3, rfl, hmu⟩ hS; replace hS := hS _ hmu; clear hmu; rw [hrow] at hS) | (refine WL.callL (D := [tabC Tp2 q ⟨sysP, applyE [] ops, ⟨sysL, [ops].map recordE, false⟩⟩ fp3]) hS Pu rfl rfl (fun hI => tget_c [107] hI) rfl rfl rfl ?_; rintro v w ⟨rfl, hmu⟩ hS; rw [show (Tb.rows ⟨sysP, applyE [] ops, ⟨sysL, [ops].map recordE, false⟩⟩) = applyE [] ops from rfl, hget]; replace hS := hS _ hmu; clear hmu) | (refine WL.calls hS rfl rfl (record_c [⟨[97], [98], false⟩] (St.boxSl (enc := cellsChg) (sz := 3) [⟨[97], [98], false⟩] (by decide) hS Mm (by decide)) (by rw [hrecl]; decide) (by decide)) rfl rfl rfl ?_; rintro v w rfl hS; rw [hreca]) | refine WL.build rfl rfl rfl rfl rfl ?_ | (refine WL.slit hS rfl rfl rfl rfl rfl ?_; intro w b hS)) | (show WC _ _ _ _ _ _; first | refine WC.seq ?_ | refine WC.region ?_ | refine WC.skip ?_ | refine WC.ret ?_ | refine WC.condF rfl (by with_reducible rfl) ?_ | refine WC.condF rfl (by decide) ?_) | refine seqQ_n ?_)
  exact fin1r rfl rfl ⟨hS.upd, rfl⟩
end Go.Proofs.YtccfiohagbneaaaGreatDoor

/- What is proved: batches filled with changes: what they answer, and what the table answers once they are committed; the law's fill. Conditions: texts and lists of bounded length. -/
namespace Go.Proofs.YtccfiohagbneaaaGreatDoor
open Go Go.J Go.RowKit Go.ChangeShapes Go.WideShapes Go.ChangeAt Go.Deep
def QChg (o : Chg) (b : Nat) : Prop := o.key.length + o.val.length + 4 ≤ b
theorem Opens.bool {P : Program} {t : TypeId} (ht : P.underlying t = some .bool) : Opens P t cBool (fun _ b => 1 ≤ b) := by
  intro H enc W fuel cs x h
  obtain ⟨b, rfl, rfl⟩ := DataW.trod_bool ht h
  exact ⟨b, rfl, by simp [Rows.uptoBulk]⟩
instance : Inhabited Chg := ⟨Chg0⟩
def fillE (m : Bch) (l : List Chg) : Bch := l.foldl (fun m o => noteE m (normO o)) m
structure BchOk (m : Bch) : Prop where
  nd : (m.map Prod.fst).Nodup
  key : ∀ p ∈ m, p.1 = p.2.key
  clean : Clean (m.map Prod.snd)
theorem mset_mem {β : Type} {m : List (List UInt8 × β)} {x : List UInt8} {v : β} {p : List UInt8 × β} (h : p ∈ mset m x v) : p ∈ m ∨ p = (x, v) := by
  induction m with
  | nil => simp [mset] at h; exact .inr h
  | cons a r ih =>
    obtain ⟨k, u⟩ := a
    unfold mset at h
    split at h
    · rename_i e
      rcases List.mem_cons.1 h with rfl | h
      · exact .inr (by rw [e])
      · exact .inl (List.mem_cons_of_mem _ h)
    · rcases List.mem_cons.1 h with rfl | h
      · exact .inl (List.mem_cons_self ..)
      · rcases ih h with h | h
        · exact .inl (List.mem_cons_of_mem _ h)
        · exact .inr h
theorem normO_clean (o : Chg) : (normO o).gone = true → (normO o).val = [] := by
  unfold normO
  split
  · intro _; rfl
  · rename_i h; intro hg; exact absurd hg h
theorem BchOk.nil : BchOk [] := ⟨by simp, by simp, by intro o ho; simp at ho⟩
theorem BchOk.note {m : Bch} (h : BchOk m) (o : Chg) : BchOk (noteE m (normO o)) := by
  refine ⟨mset_nodup h.nd _ _, fun p hp => ?_, fun x hx => ?_⟩
  · rcases mset_mem hp with hp | rfl
    · exact h.key p hp
    · rfl
  · obtain ⟨p, hp, rfl⟩ := List.mem_map.1 hx
    rcases mset_mem hp with hp | rfl
    · exact h.clean _ (List.mem_map_of_mem hp)
    · exact normO_clean o
theorem BchOk.fill : ∀ {l : List Chg} {m : Bch}, BchOk m → BchOk (fillE m l)
  | [], _, h => h
  | o :: l, m, h => BchOk.fill (l := l) (h.note o)
def wantE (k : List UInt8) (w : List UInt8 × Bool) (o : Chg) : List UInt8 × Bool := if o.key = k then (if o.gone then [] else o.val, !o.gone) else w
section
variable {α : Type} {c : Cod α} {w0 w : World} {M : List Nat} {H : List Chunk} {Z : List Snap} {z : Snap} {k : Chunk}
end
end Go.Proofs.YtccfiohagbneaaaGreatDoor

/- What is proved: what the disk's Arm and Restart do. Conditions: files of bounded length, of which what is kept is no longer than what is seen where it has only grown. -/
namespace Go.J
open Go Go.RowKit
section
variable {P : Program} {N : Fz} {f : Fr} {w w0 : World} {Q : Post} {ops l : List Oper} {o : Oper} {M : List Nat} {H H' : List Chunk} {Z : List Snap} {ρ : Operand → Value}
theorem run_remU {ty ty' : TypeId} {x y : Operand} {a b : Int} (ho : o.op = .binOp .rem ty x y ty') (hx : ρ x = .int .u64 a) (hy : ρ y = .int .u64 b) (ha : 0 ≤ a) (hb : 0 < b ∧ b < 18446744073709551616) :
    (execOp ρ o).run P w = .ok (.value (.int .u64 (a % b))) w := by
  have h0 : ¬ b = 0 := by omega
  have h1 : (eqGuard .rem ty x y (.int .u64 a) (.int .u64 b)).run P w = .ok () w := by simp [eqGuard]
  have h2 : (binOp .rem ty (.int .u64 a) (.int .u64 b)).run P w = .ok (.int .u64 (a % b)) w := by
    have e1 := Int.emod_nonneg a h0
    have e2 := Int.emod_lt_of_pos a hb.1
    have e3 : IntKind.u64.wrap (a % b) = a % b := by rw [IntKind.wrap_u64]; omega
    simp [binOp, Op.intDiv, h0, Int.tmod_eq_emod_of_nonneg ha, e3]
  simp only [execOp, ho, hx, hy, Sem.run_bind, h1, h2, Result.andThen_ok]
  rfl
theorem WL.remU {ty ty' : TypeId} {x y : Operand} {a b : Int} (ho : o.op = .binOp .rem ty x y ty') (hx : ev f x = .int .u64 a) (hy : ev f y = .int .u64 b) (ha : 0 ≤ a) (hb : 0 < b ∧ b < 18446744073709551616)
    (hg : wants ops f o = true) {d : Nat} (hd : o.dst = some d) (hn : N.ok d = true) (h : WL P N ops l (up f d (.int .u64 (a % b))) w Q) : WL P N ops (o :: l) f w Q := .val hg hd hn (run_remU ho hx hy ha hb) h
theorem wrapU {a : Int} (h : 0 ≤ a ∧ a < 18446744073709551616) : IntKind.u64.wrap a = a := by rw [IntKind.wrap_u64]; omega
theorem WL.subU {ty ty' : TypeId} {x y : Operand} {a b : Int} (ho : o.op = .binOp .sub ty x y ty') (hx : ev f x = .int .u64 a) (hy : ev f y = .int .u64 b) (hr : 0 ≤ a - b ∧ a - b < 18446744073709551616)
    (hg : wants ops f o = true) {d : Nat} (hd : o.dst = some d) (hn : N.ok d = true) (h : WL P N ops l (up f d (.int .u64 (a - b))) w Q) : WL P N ops (o :: l) f w Q := by
  refine WL.subW ho hx hy hg hd hn ?_
  rw [wrapU hr]; exact h
def toU64 (P : Program) (s d : TypeId) : Bool := match P.underlying s, P.underlying d with
  | some (.int _), some (.int .u64) => true
  | _, _ => false
theorem WL.convU {s d' : TypeId} {x : Operand} {k : IntKind} {a : Int} (ho : o.op = .convert s d' x) (ht : toU64 P s d' = true) (hx : ev f x = .int k a) (hr : 0 ≤ a ∧ a < 18446744073709551616)
    (hg : wants ops f o = true) {d : Nat} (hd : o.dst = some d) (hn : N.ok d = true) (h : WL P N ops l (up f d (.int .u64 a)) w Q) : WL P N ops (o :: l) f w Q := by
  refine .pure (v := .int .u64 a) ?_ hg hd hn h
  unfold toU64 at ht
  split at ht
  · rename_i k1 h1 h2
    unfold pureV
    rw [ho]
    simp only [pureOp, h1, h2, hx, wrapU hr]
    rfl
  · cases ht
end
section
variable {P : Program} {N : Fz} {f : Fr} {w w0 : World} {Q : Post} {ops : List Oper} {M : List Nat} {H0 H H' : List Chunk} {Z0 Z : List Snap} {q : Qs} {l : List Nat} {i : Nat} {S : World → Prop}
theorem WD.remU {ty ty' : TypeId} {x y : Operand} {a b : Int} (ho : (ix ops i).op = .binOp .rem ty x y ty') (hx : ev f x = .int .u64 a) (hy : ev f y = .int .u64 b) (ha : 0 ≤ a) (hb : 0 < b ∧ b < 18446744073709551616)
    (hq : q.contains i = true) (hg : wants ops f (ix ops i) = true) {d : Nat} (hd : (ix ops i).dst = some d) (hn : N.ok d = true) (h : WD P N S ops q l (up f d (.int .u64 (a % b))) w Q) : WD P N S ops q (i :: l) f w Q :=
  .take hq hd hn (.inl ⟨hg, fun _ _ => run_remU ho hx hy ha hb⟩) h
theorem WD.convU {s d' : TypeId} {x : Operand} {k : IntKind} {a : Int} (ho : (ix ops i).op = .convert s d' x) (ht : toU64 P s d' = true) (hx : ev f x = .int k a) (hr : 0 ≤ a ∧ a < 18446744073709551616)
    (hq : q.contains i = true) (hg : wants ops f (ix ops i) = true) {d : Nat} (hd : (ix ops i).dst = some d) (hn : N.ok d = true) (h : WD P N S ops q l (up f d (.int .u64 a)) w Q) : WD P N S ops q (i :: l) f w Q := by
  refine .pure (v := .int .u64 a) ?_ hq hg hd hn h
  unfold toU64 at ht
  split at ht
  · rename_i k1 h1 h2
    unfold pureV
    rw [ho]
    simp only [pureOp, h1, h2, hx, wrapU hr]
    rfl
  · cases ht
end
end Go.J
namespace Go.Proofs.YtccfiohagbneaaaGreatDoor
open Go Go.J Go.RowKit
def Dk.arm (D : Dk) (n : Int) : Dk := { D with armed := max (-1) n }
set_option maxHeartbeats 4000000 in
set_option maxRecDepth 100000 in
theorem arm_c {q mb lb : Nat} {D : Dk} (n : Int) {w0 : World} (hc : (dkC q mb lb D).holds w0) (hi : inB (dkC q mb lb D) w0) :
    Cal Tryz.prog 19 [.pointer (some ⟨q, 0, none⟩), .int .i64 n] w0 (fun v w' => v = .tuple #[] ∧ Mut w0 w' (dkC q mb lb D) (dkC q mb lb (D.arm n))) := by
  refine Cal.mkM hc hi (by kernel_rfl) Tryz.func19 rfl rfl fun hS => ?_
  obtain ⟨h1, h2, h3, hS⟩ := St.dkOpen hS
  replace hS : St w0 (dkC q mb lb D).fp w0 [.box q 122 [.map (some mb), .map (some lb), .int .i64 D.steps, .int .i64 D.stamps, .int .i64 D.armed, .bool D.down], mapC mb (mmap encIt D.items), mapC lb (mmap encI D.limits)] _ := hS
  repeat' (first | (show WL _ _ _ _ _ _ _; first | refine WL.pure rfl rfl rfl rfl ?_ | refine WL.nil ?_ | refine WL.maxI rfl rfl rfl rfl rfl rfl ?_ | (refine WL.store hS rfl rfl rfl Sb rfl rfl rfl ?_; intro w hS)) | (show WC _ _ _ _ _ _; first | refine WC.seq ?_ | refine WC.region ?_ | refine WC.condT rfl (by decide) ?_) | refine seqQ_n ?_)
  exact fin0n rfl ⟨rfl, (St.dkClose (D.arm n) h1 h2 h3 hS).mutOf (List.Mem.head _)⟩
def mixS (x s : Int) : Int := bits .xor .u64 x (shrI .u64 x s)
def mixE (loss n : Int) : Int := mixS (IntKind.u64.wrap (mixS (IntKind.u64.wrap (mixS (IntKind.u64.wrap (loss + IntKind.u64.wrap (n * 11400714819323198485))) 30 * 13787848793156543929)) 27 * 10723151780598845931)) 31
theorem mixE_in (loss n : Int) : 0 ≤ mixE loss n ∧ mixE loss n < 18446744073709551616 := by
  have h : ∀ y, 0 ≤ IntKind.u64.wrap y ∧ IntKind.u64.wrap y < 18446744073709551616 := fun y => by rw [IntKind.wrap_u64]; omega
  exact h _
set_option maxHeartbeats 4000000 in
set_option maxRecDepth 100000 in
theorem mix_c (loss n : Int) (w0 : World) : Cal Tryz.prog 77 [.int .u64 loss, .int .u64 n] w0 (fun v w' => Upd [] w0 w' ∧ v = .int .u64 (mixE loss n)) := by
  refine Cal.mk' (by kernel_rfl) Tryz.func77 rfl rfl fun hS => ?_
  repeat' (first | (show WL _ _ _ _ _ _ _; first | refine WL.pure rfl rfl rfl rfl ?_ | refine WL.nil ?_ | (refine WL.shr rfl rfl rfl (by decide) rfl rfl rfl ?_)) | (show WC _ _ _ _ _ _; first | refine WC.seq ?_ | refine WC.region ?_ | refine WC.ret ?_) | refine seqQ_n ?_)
  exact fin1r rfl rfl ⟨hS.upd, rfl⟩
def loseK (loss n : Int) (x : It) : List UInt8 :=
  if x.anew then (if 0 < mixE (IntKind.u64.wrap loss) n % ((x.data.length : Int) + 2) then x.data.take (mixE (IntKind.u64.wrap loss) n % ((x.data.length : Int) + 2) - 1).toNat else x.kept)
  else x.data.take ((x.kept.length : Int) + mixE (IntKind.u64.wrap loss) n % ((x.data.length : Int) - x.kept.length + 1)).toNat
def lose1 (loss : Int) (s : Int × Dk) (p : List UInt8) : Int × Dk :=
  if (s.2.at p).loose then (s.1 + 1, s.2.set p { s.2.at p with data := loseK loss (s.1 + 1) (s.2.at p), kept := loseK loss (s.1 + 1) (s.2.at p), loose := false, anew := false }) else s
def Dk.keys (D : Dk) : List (List UInt8) := (D.items.map Prod.fst).mergeSort (fun x y => decide (x ≤ y))
def Dk.lose (D : Dk) (loss : Int) : Int × Dk := D.keys.foldl (lose1 loss) (0, D)
def Dk.restart (D : Dk) (loss : Int) : Dk := { (D.lose loss).2 with down := false, armed := -1 }
def Dk.Kp (D : Dk) (B : Nat) : Prop := ∀ x ∈ D.items, x.2.data.length ≤ B ∧ x.2.kept.length ≤ B ∧ (x.2.loose = true → x.2.anew = false → x.2.kept.length ≤ x.2.data.length)
theorem Dk.Kp.at_ {D : Dk} {B : Nat} (h : D.Kp B) (p : List UInt8) : (D.at p).data.length ≤ B ∧ (D.at p).kept.length ≤ B ∧ ((D.at p).loose = true → (D.at p).anew = false → (D.at p).kept.length ≤ (D.at p).data.length) := by
  unfold Dk.at
  cases e : mget D.items p with
  | none => exact ⟨Nat.zero_le _, Nat.zero_le _, fun h => by cases h⟩
  | some x => exact h _ (mget_mem e)
theorem loseK_len (loss n : Int) (x : It) {B : Nat} (h1 : x.data.length ≤ B) (h2 : x.kept.length ≤ B) : (loseK loss n x).length ≤ B := by
  unfold loseK
  repeat' split
  all_goals first | exact h2 | (rw [List.length_take]; omega)
theorem lose1_Kp {loss : Int} {s : Int × Dk} {p : List UInt8} {B : Nat} (h : s.2.Kp B) : (lose1 loss s p).2.Kp B := by
  unfold lose1
  split
  · intro y hy
    rcases mem_mset hy with h1 | h1
    · exact h y h1
    · rw [h1]
      have := loseK_len loss (s.1 + 1) (s.2.at p) (h.at_ p).1 (h.at_ p).2.1
      exact ⟨this, this, fun hh => by cases hh⟩
  · exact h
set_option maxHeartbeats 16000000 in
set_option maxRecDepth 100000 in
theorem restart_c {q mb lb : Nat} {D : Dk} (loss : Int) {w0 : World} (hc : (dkC q mb lb D).holds w0) (hi : inB (dkC q mb lb D) w0) (hk : D.Kp 1099511627776) (hn : D.items.length ≤ 1048576) (hkk : ∀ x ∈ D.items, x.1.length ≤ 1099511627) :
    Cal Tryz.prog 20 [.pointer (some ⟨q, 0, none⟩), .int .i64 loss] w0 (fun v w' => v = .int .i64 0 ∧ Mut w0 w' (dkC q mb lb D) (dkC q mb lb (D.restart loss))) := by
  refine Cal.mkM hc hi (by kernel_rfl) Tryz.func20 rfl rfl fun hS => ?_
  have hkl : D.keys.length = D.items.length := by unfold Dk.keys; rw [(List.mergeSort_perm _ _).length_eq, List.length_map]
  have hml : (mmap encIt D.items).length = D.items.length := by unfold mmap; rw [List.length_map]
  have hmk : (mmap encIt D.items).map Prod.fst = D.items.map Prod.fst := by unfold mmap; rw [List.map_map]; rfl
  have hks : ((mmap encIt D.items).map Prod.fst).mergeSort (fun x y => decide (x ≤ y)) = D.keys := by rw [hmk]; rfl
  have hmkk : ∀ p ∈ mmap encIt D.items, p.1.length ≤ 1099511627776 := fun p hp => by
    obtain ⟨x, hx, rfl⟩ := List.mem_map.1 hp
    have := hkk x hx
    show x.1.length ≤ _
    omega
  repeat' (first | (show WL _ _ _ _ _ _ _; first | refine WL.pure rfl rfl rfl rfl ?_ | refine WL.nil ?_ | (refine WL.load hS rfl rfl (LdOk.dk (D := D) Mm rfl) rfl rfl rfl ?_) | (refine WL.callG rfl rfl (mapsKeys_n mb _) rfl rfl rfl ?_; rintro v w ⟨x, rfl, hu, hnw⟩; replace hS := hS.new hu hnw; clear hu hnw) | (refine WL.callG rfl rfl (sorted_c (m := mmap encIt D.items) (hS.holds (.box x keysT [.map (some mb)]) Mm) (hS.holds (dkC q mb lb D) Mm).1.2.2.2.2.1 (by rw [hml]; exact hn) hmkk) rfl rfl rfl ?_; rintro v w ⟨hu, A, cap, rfl, hnw⟩; rw [hks, hml] at hnw; rw [hml]; replace hS := hS.new hu hnw; clear hu hnw)) | (show WC _ _ _ _ _ _; first | refine WC.seq ?_ | refine WC.region ?_ | refine WC.block ?_ | refine WC.skip ?_ | refine WC.condF rfl (by with_reducible rfl) ?_) | refine seqQ_n ?_)
  refine WC.loop (σ := Nat × Int × Dk) [0, 1, 18, 19] (fun (k, n, E) => [(5, .int .i64 n), (20, .int .i64 (k : Int))])
    (fun (k, n, E) w => k ≤ D.items.length ∧ 0 ≤ n ∧ n ≤ k ∧ E.Kp 1099511627776 ∧ (D.keys.drop k).foldl (lose1 loss) (n, E) = D.lose loss ∧ St w0 _ w [.own (.slice A D.items.length cap) 9 1 D.items.length (strs D.keys), .box x keysT [.map (some mb)], dkC q mb lb E] _)
    (fun (k, _) => D.items.length - k) (0, 0, D) ⟨Nat.zero_le _, Int.le_refl _, Int.le_refl _, hk, rfl, hS⟩ ⟨rfl, rfl, trivial⟩ ?_
  clear hS
  rintro ⟨k, n, E⟩ g w ⟨hk', h0, hnk, hKp, hfold, hS⟩
  show WC _ _ _ (lf _ [(5, .int .i64 n), (20, .int .i64 (k : Int))] _ _) _ _
  by_cases hlt : k < D.items.length
  · have hlt2 : k < D.keys.length := by omega
    obtain ⟨ga, oa, rfl⟩ := hS.own_addr (List.Mem.head _) (by omega)
    have hx : (strs D.keys)[k * 1]? = some (str D.keys[k]) := by rw [Nat.mul_one]; exact strs_at hlt2
    have hstep : D.keys.drop k = D.keys[k] :: D.keys.drop (k + 1) := List.drop_eq_getElem_cons hlt2
    rw [hstep, List.foldl_cons] at hfold
    clear hstep
    generalize D.keys[k] = p at *
    have hat := hKp.at_ p
    have hKp' := lose1_Kp (loss := loss) (s := (n, E)) (p := p) hKp
    have hlk := look_it E.items p
    have hE : E.at p = (mget E.items p).getD It0 := rfl
    rw [← hE] at hlk
    clear hE
    have hl1 : lose1 loss (n, E) p = if (E.at p).loose then (n + 1, E.set p { E.at p with data := loseK loss (n + 1) (E.at p), kept := loseK loss (n + 1) (E.at p), loose := false, anew := false }) else (n, E) := rfl
    rw [hl1] at hfold hKp'
    clear hl1
    generalize E.at p = it at *
    obtain ⟨dir, dat, kept, loose, anew, stamp⟩ := it
    dsimp only at *
    have hlk : lookV (encIt It0) (mmap encIt E.items) p false = .agg ⟨[.bool dir, str dat, str kept, .bool loose, .bool anew, .int .i64 stamp]⟩ := hlk
    have hpk := mixE_in (IntKind.u64.wrap loss) (n + 1)
    cases loose with
    | false =>
      rw [if_neg (by decide)] at hfold hKp'
      repeat' (first | (show WL _ _ _ _ _ _ _; first | refine WL.pure rfl rfl rfl rfl ?_ | refine WL.nil ?_ | refine WL.load hS rfl rfl (LdOk.box Mm rfl) rfl rfl rfl ?_ | refine WL.add rfl rfl rfl (by omega) rfl rfl rfl ?_ | (refine WL.load hS rfl rfl (LdOk.ownAt Mm rfl ⟨_, rfl⟩ hx rfl) rfl rfl rfl ?_) | (refine WL.load hS rfl rfl (LdOk.dk (D := E) Mm rfl) rfl rfl rfl ?_) | (refine WL.mget hS rfl rfl rfl rfl (MapOk.dk (D := E) Mm) hlk rfl rfl rfl ?_) | (refine WL.store hS rfl rfl rfl Sb rfl rfl rfl ?_; intro w hS) | (refine WL.alloc hS rfl rfl rfl rfl rfl rfl ?_; intro w b hS) | refine WL.index rfl rfl rfl rfl (by first | with_reducible assumption | omega) rfl rfl rfl rfl ?_) | (show WC _ _ _ _ _ _; first | refine WC.seq ?_ | refine WC.region ?_ | refine WC.block ?_ | refine WC.skip ?_ | refine WC.exit ?_ | refine WC.condT rfl (by decide) ?_ | refine WC.condT rfl (decide_eq_true (by first | with_reducible assumption | omega)) ?_) | refine seqQ_n ?_ | refine seqQ_x ?_ | refine blkQ_hit rfl ?_)
      exact rndQ_n (k + 1, n, E) ⟨by omega, h0, by show n ≤ ((k + 1 : Nat) : Int); omega, hKp, hfold, hS.drop⟩ (by show D.items.length - (k + 1) < D.items.length - k; omega) ⟨rfl, vint (by omega), trivial⟩ ⟨rfl, rfl, rfl, rfl, trivial⟩
    | true =>
      rw [if_pos rfl] at hfold hKp'
      cases anew with
      | true =>
        have he0 := Int.emod_nonneg (mixE (IntKind.u64.wrap loss) (n + 1)) (show ((dat.length : Int) + 2) ≠ 0 by omega)
        have he1 := Int.emod_lt_of_pos (mixE (IntKind.u64.wrap loss) (n + 1)) (show (0 : Int) < (dat.length : Int) + 2 by omega)
        obtain ⟨mm, hmm⟩ : ∃ mm : Nat, mixE (IntKind.u64.wrap loss) (n + 1) % ((dat.length : Int) + 2) = (mm : Int) := ⟨_, (Int.toNat_of_nonneg he0).symm⟩
        rw [hmm] at he0 he1
        have hK : loseK loss (n + 1) ⟨dir, dat, kept, true, true, stamp⟩ = if 0 < mm then dat.take (mm - 1) else kept := by
          unfold loseK
          rw [if_pos rfl]
          dsimp only
          rw [hmm]
          by_cases hz : 0 < mm
          · rw [if_pos (by omega), if_pos hz]; congr 1; omega
          · rw [if_neg (by omega), if_neg hz]
        rw [hK] at hfold hKp'
        clear hK
        by_cases hz : 0 < mm
        · have hm1 : (mm : Int) - 1 = ((mm - 1 : Nat) : Int) := by omega
          rw [if_pos hz] at hfold hKp'
          repeat' (first | (show WL _ _ _ _ _ _ _; first | (refine WL.convU rfl rfl rfl (by omega) rfl rfl rfl ?_) | (refine WL.subU rfl rfl rfl (by omega) rfl rfl rfl ?_; rw [hm1]) | refine WL.pure rfl rfl rfl rfl ?_ | refine WL.nil ?_ | refine WL.load hS rfl rfl (LdOk.box Mm rfl) rfl rfl rfl ?_ | refine WL.add rfl rfl rfl (by omega) rfl rfl rfl ?_ | (refine WL.load hS rfl rfl (LdOk.ownAt Mm rfl ⟨_, rfl⟩ hx rfl) rfl rfl rfl ?_) | (refine WL.load hS rfl rfl (LdOk.dk (D := E) Mm rfl) rfl rfl rfl ?_) | (refine WL.mget hS rfl rfl rfl rfl (MapOk.dk (D := E) Mm) hlk rfl rfl rfl ?_) | (refine WL.calls hS rfl rfl (mix_c (IntKind.u64.wrap loss) (n + 1) _) rfl rfl rfl ?_; rintro v w rfl hS) | (refine WL.remU rfl rfl rfl (by omega) (by omega) rfl rfl rfl ?_; rw [hmm]) | (refine WL.callL (D := [dkC q mb lb E]) hS Pu rfl rfl (fun hI => dset_c p ⟨dir, dat.take (mm - 1), dat.take (mm - 1), false, false, stamp⟩ hI.head hI.headB) rfl rfl rfl ?_; rintro v w ⟨rfl, hm⟩ hS; replace hS := hS _ (.of1 hm); clear hm) | refine WL.highS rfl rfl rfl rfl (by omega) rfl rfl rfl ?_ | (refine WL.store hS rfl rfl rfl Sb rfl rfl rfl ?_; intro w hS) | (refine WL.alloc hS rfl rfl rfl rfl rfl rfl ?_; intro w b hS) | refine WL.index rfl rfl rfl rfl (by first | with_reducible assumption | omega) rfl rfl rfl rfl ?_) | (show WC _ _ _ _ _ _; first | refine WC.seq ?_ | refine WC.region ?_ | refine WC.block ?_ | refine WC.skip ?_ | refine WC.condT rfl (by with_reducible rfl) ?_ | refine WC.condF rfl (by decide) ?_ | refine WC.condT rfl (decide_eq_true (by first | with_reducible assumption | omega)) ?_) | refine seqQ_n ?_ | refine blkQ_n ?_)
          exact rndQ_n (k + 1, n + 1, E.set p ⟨dir, dat.take (mm - 1), dat.take (mm - 1), false, false, stamp⟩) ⟨by omega, by show 0 ≤ n + 1; omega, by show n + 1 ≤ ((k + 1 : Nat) : Int); omega, hKp', hfold, hS.droplast2 Pu⟩ (by show D.items.length - (k + 1) < D.items.length - k; omega) ⟨rfl, vint (by omega), trivial⟩ ⟨rfl, rfl, rfl, rfl, trivial⟩
        · rw [if_neg hz] at hfold hKp'
          repeat' (first | (show WL _ _ _ _ _ _ _; first | (refine WL.convU rfl rfl rfl (by omega) rfl rfl rfl ?_) | refine WL.pure rfl rfl rfl rfl ?_ | refine WL.nil ?_ | refine WL.load hS rfl rfl (LdOk.box Mm rfl) rfl rfl rfl ?_ | refine WL.add rfl rfl rfl (by omega) rfl rfl rfl ?_ | (refine WL.load hS rfl rfl (LdOk.ownAt Mm rfl ⟨_, rfl⟩ hx rfl) rfl rfl rfl ?_) | (refine WL.load hS rfl rfl (LdOk.dk (D := E) Mm rfl) rfl rfl rfl ?_) | (refine WL.mget hS rfl rfl rfl rfl (MapOk.dk (D := E) Mm) hlk rfl rfl rfl ?_) | (refine WL.calls hS rfl rfl (mix_c (IntKind.u64.wrap loss) (n + 1) _) rfl rfl rfl ?_; rintro v w rfl hS) | (refine WL.remU rfl rfl rfl (by omega) (by omega) rfl rfl rfl ?_; rw [hmm]) | (refine WL.callL (D := [dkC q mb lb E]) hS Pu rfl rfl (fun hI => dset_c p ⟨dir, kept, kept, false, false, stamp⟩ hI.head hI.headB) rfl rfl rfl ?_; rintro v w ⟨rfl, hm⟩ hS; replace hS := hS _ (.of1 hm); clear hm) | (refine WL.store hS rfl rfl rfl Sb rfl rfl rfl ?_; intro w hS) | (refine WL.alloc hS rfl rfl rfl rfl rfl rfl ?_; intro w b hS) | refine WL.index rfl rfl rfl rfl (by first | with_reducible assumption | omega) rfl rfl rfl rfl ?_) | (show WC _ _ _ _ _ _; first | refine WC.seq ?_ | refine WC.region ?_ | refine WC.block ?_ | refine WC.skip ?_ | refine WC.condT rfl (by with_reducible rfl) ?_ | refine WC.condF rfl (by decide) ?_ | refine WC.condT rfl (decide_eq_true (by first | with_reducible assumption | omega)) ?_ | refine WC.condF rfl (decide_eq_false (by first | with_reducible assumption | omega)) ?_) | refine seqQ_n ?_ | refine blkQ_n ?_)
          exact rndQ_n (k + 1, n + 1, E.set p ⟨dir, kept, kept, false, false, stamp⟩) ⟨by omega, by show 0 ≤ n + 1; omega, by show n + 1 ≤ ((k + 1 : Nat) : Int); omega, hKp', hfold, hS.droplast2 Pu⟩ (by show D.items.length - (k + 1) < D.items.length - k; omega) ⟨rfl, vint (by omega), trivial⟩ ⟨rfl, rfl, rfl, rfl, trivial⟩
      | false =>
        have hkd := hat.2.2 rfl rfl
        have he0 := Int.emod_nonneg (mixE (IntKind.u64.wrap loss) (n + 1)) (show ((dat.length : Int) - kept.length + 1) ≠ 0 by omega)
        have he1 := Int.emod_lt_of_pos (mixE (IntKind.u64.wrap loss) (n + 1)) (show (0 : Int) < (dat.length : Int) - kept.length + 1 by omega)
        obtain ⟨mm, hmm⟩ : ∃ mm : Nat, mixE (IntKind.u64.wrap loss) (n + 1) % ((dat.length : Int) - kept.length + 1) = (mm : Int) := ⟨_, (Int.toNat_of_nonneg he0).symm⟩
        rw [hmm] at he0 he1
        have hK : loseK loss (n + 1) ⟨dir, dat, kept, true, false, stamp⟩ = dat.take (kept.length + mm) := by
          unfold loseK
          rw [if_neg (show ¬ false = true by decide)]
          dsimp only
          rw [hmm]
          congr 1
        rw [hK] at hfold hKp'
        clear hK
        repeat' (first | (show WL _ _ _ _ _ _ _; first | (refine WL.convU rfl rfl rfl (by omega) rfl rfl rfl ?_) | refine WL.pure rfl rfl rfl rfl ?_ | refine WL.nil ?_ | refine WL.load hS rfl rfl (LdOk.box Mm rfl) rfl rfl rfl ?_ | refine WL.add rfl rfl rfl (by omega) rfl rfl rfl ?_ | (refine WL.load hS rfl rfl (LdOk.ownAt Mm rfl ⟨_, rfl⟩ hx rfl) rfl rfl rfl ?_) | (refine WL.load hS rfl rfl (LdOk.dk (D := E) Mm rfl) rfl rfl rfl ?_) | (refine WL.mget hS rfl rfl rfl rfl (MapOk.dk (D := E) Mm) hlk rfl rfl rfl ?_) | (refine WL.calls hS rfl rfl (mix_c (IntKind.u64.wrap loss) (n + 1) _) rfl rfl rfl ?_; rintro v w rfl hS) | (refine WL.callL (D := [dkC q mb lb E]) hS Pu rfl rfl (fun hI => dset_c p ⟨dir, dat.take (kept.length + mm), dat.take (kept.length + mm), false, false, stamp⟩ hI.head hI.headB) rfl rfl rfl ?_; rintro v w ⟨rfl, hm⟩ hS; replace hS := hS _ (.of1 hm); clear hm) | (refine WL.store hS rfl rfl rfl Sb rfl rfl rfl ?_; intro w hS) | (refine WL.alloc hS rfl rfl rfl rfl rfl rfl ?_; intro w b hS) | refine WL.index rfl rfl rfl rfl (by first | with_reducible assumption | omega) rfl rfl rfl rfl ?_) | (show WC _ _ _ _ _ _; first | refine WC.seq ?_ | refine WC.region ?_ | refine WC.block ?_ | refine WC.skip ?_ | (show WC _ _ (Code.region _ (List.toArray [_, _, _, _, _, _, _, _, _, _, _, _, _, _, _, _, _, _, _, _, _]) true) _ _ _; refine WC.drawV hS [0,1,2,3,4,5,6,7,8,9,10,11,12,13,14,15,16,17,18,19] [0,1,2,3,4,5,6,7,8,9,10,11,12,13,14,15,16,17,18,19] 20 [] (by kernel_rfl) (by kernel_rfl) ?_; clear hS; intro w hS hM) | refine WC.condF rfl (by with_reducible rfl) ?_ | refine WC.condF rfl (by decide) ?_ | refine WC.condT rfl (decide_eq_true (by first | with_reducible assumption | omega)) ?_) | (show WD _ _ _ _ _ _ _ _ _; first | (refine WD.convU rfl rfl rfl (by omega) rfl rfl rfl rfl ?_) | refine WD.pure rfl rfl rfl rfl rfl ?_ | refine WD.nil ?_ | refine WD.load rfl rfl (LdOk.box Mm rfl) rfl rfl rfl rfl ?_ | refine WD.add rfl rfl rfl (by omega) rfl rfl rfl rfl ?_ | refine WD.sub rfl rfl rfl (by omega) rfl rfl rfl rfl ?_ | (refine WD.remU rfl rfl rfl (by omega) (by omega) rfl rfl rfl rfl ?_; rw [hmm]) | (refine WD.highS rfl rfl rfl rfl (by omega) rfl rfl rfl rfl ?_) | (refine WD.pivStore hS rfl rfl rfl Sb rfl rfl rfl rfl ?_; clear hS; intro w hS hM) | refine WD.conv64 rfl rfl rfl (by omega) rfl rfl rfl rfl ?_) | refine seqQ_n ?_ | refine blkQ_n ?_)
        exact rndQ_n (k + 1, n + 1, E.set p ⟨dir, dat.take (kept.length + mm), dat.take (kept.length + mm), false, false, stamp⟩) ⟨by omega, by show 0 ≤ n + 1; omega, by show n + 1 ≤ ((k + 1 : Nat) : Int); omega, hKp', hfold, hS.droplast2 Pu⟩ (by show D.items.length - (k + 1) < D.items.length - k; omega) ⟨rfl, vint (by omega), trivial⟩ ⟨rfl, rfl, rfl, rfl, trivial⟩
  · have hke : k = D.items.length := by omega
    subst hke
    rw [← hkl, List.drop_length, List.foldl_nil] at hfold
    have hS := hS.droplast2 (D := [dkC q mb lb E]) Pu
    have hR : D.restart loss = { E with down := false, armed := -1 } := by unfold Dk.restart; rw [← hfold]
    rw [hR]
    obtain ⟨h1, h2, h3, hS⟩ := St.dkOpen hS
    replace hS : St w0 _ w [.box q 122 [.map (some mb), .map (some lb), .int .i64 E.steps, .int .i64 E.stamps, .int .i64 E.armed, .bool E.down], mapC mb (mmap encIt E.items), mapC lb (mmap encI E.limits)] _ := hS
    repeat' (first | (show WL _ _ _ _ _ _ _; first | refine WL.pure rfl rfl rfl rfl ?_ | refine WL.nil ?_ | (refine WL.store hS rfl rfl rfl Sb rfl rfl rfl ?_; intro w hS)) | (show WC _ _ _ _ _ _; first | refine WC.seq ?_ | refine WC.region ?_ | refine WC.exit ?_ | refine WC.ret ?_ | refine WC.condF rfl (decide_eq_false (by first | with_reducible assumption | omega)) ?_) | refine seqQ_n ?_ | refine seqQ_x ?_ | refine blkQ_hit rfl ?_ | refine rndQ_x ?_)
    exact fin1r rfl rfl ⟨rfl, (St.dkClose { E with down := false, armed := -1 } h1 h2 h3 hS).mutOf (List.Mem.head _)⟩
end Go.Proofs.YtccfiohagbneaaaGreatDoor

/- What is proved: a disk with a table's files, wherever the machine stops: what its calls leave, what is kept behind the next beginning. Conditions: as each names them. -/
namespace Go.Proofs.YtccfiohagbneaaaGreatDoor
open Go Go.J Go.RowKit
abbrev CB : Nat := 1000000000
structure SysC (D : Dk) : Prop where
  lim : D.limits = []
  nd : (D.items.map Prod.fst).Nodup
  dir : (D.at sysP).dir = true
  has : D.has sysP = true
  files : ∀ p, sysF p → (D.at p).dir = false
  keys : ∀ x ∈ D.items, x.1 = sysP ∨ sysF x.1
  kp : D.Kp CB
  firm : (D.at sysP).loose = false
structure SysU (D : Dk) : Prop where
  c : SysC D
  up : D.down = false
def KpI (x : It) : Prop := x.data.length ≤ CB ∧ x.kept.length ≤ CB ∧ (x.loose = true → x.anew = false → x.kept.length ≤ x.data.length)
def Halt (D D' : Dk) : Prop := SysC D' ∧ ∀ y, D'.get y = D.get y
section
variable {D : Dk} {bs : Option (List Chg)} {ls : List (List Chg)}
theorem SysC.step (h : SysC D) : SysC D.step := by
  have e := Dk.step_items D
  refine ⟨by rw [Dk.step_limits]; exact h.lim, by rw [e]; exact h.nd, ?_, ?_, fun p hp => ?_, by rw [e]; exact h.keys, fun x hx => h.kp x (by rwa [e] at hx), by rw [Dk.at_get, Dk.get_step]; exact h.firm⟩
  · rw [Dk.at_get, Dk.get_step]; exact h.dir
  · rw [Dk.has_get, Dk.get_step]; exact h.has
  · rw [Dk.at_get, Dk.get_step]; exact h.files p hp
theorem SysC.halt (h : SysC D) : Halt D D.step := ⟨h.step, fun y => Dk.get_step D y⟩
theorem SysU.step (h : SysU D) (ha : ¬ D.armed = 0) : SysU D.step := ⟨h.c.step, by unfold Dk.step; rw [if_neg ha]; exact h.up⟩
theorem step_stamps (D : Dk) : D.step.stamps = D.stamps := by unfold Dk.step; split <;> rfl
theorem SysC.put (h : SysC D) {p : List UInt8} {x : It} (hp : sysF p) (hx : x.dir = false) (hk : KpI x) : SysC { D with items := mset D.items p x } := by
  obtain ⟨_, _, _, hne⟩ := sysF_ok hp
  refine ⟨h.lim, mset_nodup h.nd _ _, ?_, ?_, fun y hy => ?_, fun y hy => ?_, fun y hy => ?_, by rw [Dk.at_get, Dk.get_put, if_neg (Ne.symm hne)]; exact h.firm⟩
  · rw [Dk.at_get, Dk.get_put, if_neg (Ne.symm hne)]; exact h.dir
  · rw [Dk.has_get, Dk.get_put, if_neg (Ne.symm hne)]; exact h.has
  · rw [Dk.at_get, Dk.get_put]
    by_cases e : y = p
    · rw [if_pos e]; exact hx
    · rw [if_neg e]; exact h.files y hy
  · rcases mset_mem hy with h1 | h1
    · exact h.keys y h1
    · rw [h1]; exact .inr hp
  · rcases mset_mem hy with h1 | h1
    · exact h.kp y h1
    · rw [h1]; exact hk
theorem SysC.set (h : SysC D) {p : List UInt8} {x : It} (hp : sysF p) (hx : x.dir = false) (hk : KpI x) : SysC (D.set p x) := by
  have h1 := h.put (x := { x with stamp := IntKind.i64.wrap (D.stamps + 1) }) hp hx hk
  exact ⟨h1.lim, h1.nd, h1.dir, h1.has, h1.files, h1.keys, h1.kp, h1.firm⟩
theorem SysC.del (h : SysC D) {p : List UInt8} (hp : sysF p) : SysC (D.del p) := by
  obtain ⟨_, _, _, hne⟩ := sysF_ok hp
  refine ⟨h.lim, mdel_nodup h.nd _, ?_, ?_, fun y hy => ?_, fun y hy => h.keys y ((mdel_sub _ _).mem hy), fun y hy => h.kp y ((mdel_sub _ _).mem hy), by rw [Dk.at_get, Dk.get_del _ h.nd, if_neg (Ne.symm hne)]; exact h.firm⟩
  · rw [Dk.at_get, Dk.get_del _ h.nd, if_neg (Ne.symm hne)]; exact h.dir
  · rw [Dk.has_get, Dk.get_del _ h.nd, if_neg (Ne.symm hne)]; exact h.has
  · rw [Dk.at_get, Dk.get_del _ h.nd]
    by_cases e : y = p
    · rw [if_pos e]; rfl
    · rw [if_neg e]; exact h.files y hy
theorem SysU.may (h : SysU D) {p : List UInt8} (hp : sysF p) : D.may p 1 = 0 := by
  obtain ⟨h1, h2, _, _⟩ := sysF_ok hp
  unfold Dk.may
  rw [h.up, if_neg (by decide), if_neg (fun hh => hh h1), if_neg (by rw [h2]; decide)]
theorem SysC.under (h : SysC D) {p : List UInt8} (hp : sysF p) : D.under p = true := by
  obtain ⟨_, h2, h3, _⟩ := sysF_ok hp
  unfold Dk.under
  rw [if_neg (by rw [h2]; decide), h3, h.dir]
theorem SysU.file (h : SysU D) {p : List UInt8} (hp : sysF p) (hh : D.has p = true) : D.file p = 0 := by
  unfold Dk.file
  rw [h.may hp, if_neg (fun hh => hh rfl), if_pos hh, h.c.files p hp, if_neg (by decide)]
theorem stepE0 {D : Dk} (h : D.armed = 0) : D.stepE = 14 := if_pos h
theorem stepE1 {D : Dk} (h : ¬ D.armed = 0) : D.stepE = 0 := if_neg h
theorem SysU.append (h : SysU D) {p r : List UInt8} (hp : sysF p) (hh : D.has p = true) (hz : (D.at p).data.length + r.length ≤ CB) (hkd : (D.at p).kept.length ≤ (D.at p).data.length) :
    (D.append p r).1 = 14 ∧ Halt D (D.append p r).2 ∨ (D.append p r).1 = 0 ∧ SysU (D.append p r).2 ∧ ∀ y, (D.append p r).2.get y = if y = p then some { D.at p with data := (D.at p).data ++ r, loose := true, stamp := IntKind.i64.wrap (D.stamps + 1) } else D.get y := by
  by_cases ha : D.armed = 0
  · have e : D.append p r = (14, D.step) := by
      unfold Dk.append
      rw [h.file hp hh, if_neg (fun hh => hh rfl), stepE0 ha, if_pos (by decide)]
    rw [e]
    exact .inl ⟨rfl, h.c.halt⟩
  · have e : D.append p r = (0, D.step.set p { D.at p with data := (D.at p).data ++ r, loose := true }) := by
      unfold Dk.append
      rw [h.file hp hh, if_neg (fun hh => hh rfl), stepE1 ha, if_neg (fun hh => hh rfl), Dk.step_at]
    rw [e]
    have hk := h.c.kp.at_ p
    refine .inr ⟨rfl, ⟨h.c.step.set hp (h.c.files p hp) ⟨?_, hk.2.1, fun _ ha => ?_⟩, (h.step ha).up⟩, fun y => ?_⟩
    · show ((D.at p).data ++ r).length ≤ CB
      rw [List.length_append]; exact hz
    · show (D.at p).kept.length ≤ ((D.at p).data ++ r).length
      rw [List.length_append]
      omega
    · rw [Dk.get_set, Dk.get_step, step_stamps]
theorem SysU.sync (h : SysU D) {p : List UInt8} (hp : sysF p) (hh : D.has p = true) :
    (D.sync p).1 = 14 ∧ Halt D (D.sync p).2 ∨ (D.sync p).1 = 0 ∧ SysU (D.sync p).2 ∧ ∀ y, (D.sync p).2.get y = if y = p then some { D.at p with kept := (D.at p).data, loose := false, anew := false } else D.get y := by
  by_cases ha : D.armed = 0
  · have e : D.sync p = (14, D.step) := by
      unfold Dk.sync
      rw [h.file hp hh, if_neg (fun hh => hh rfl), stepE0 ha, if_pos (by decide)]
    rw [e]
    exact .inl ⟨rfl, h.c.halt⟩
  · have e : D.sync p = (0, { D.step with items := mset D.step.items p { D.at p with kept := (D.at p).data, loose := false, anew := false } }) := by
      unfold Dk.sync
      rw [h.file hp hh, if_neg (fun hh => hh rfl), stepE1 ha, if_neg (fun hh => hh rfl), Dk.step_at]
    rw [e]
    have hk := h.c.kp.at_ p
    refine .inr ⟨rfl, ⟨h.c.step.put hp (h.c.files p hp) ⟨hk.1, hk.1, fun hh => by cases hh⟩, (h.step ha).up⟩, fun y => ?_⟩
    rw [Dk.get_put, Dk.get_step]
theorem SysU.write (h : SysU D) {p r : List UInt8} (hp : sysF p) (hz : r.length ≤ CB) :
    (D.write p r).1 = 14 ∧ Halt D (D.write p r).2 ∨ (D.write p r).1 = 0 ∧ SysU (D.write p r).2 ∧ ∀ y, (D.write p r).2.get y = if y = p then some { D.at p with data := r, loose := true, anew := true, stamp := IntKind.i64.wrap (D.stamps + 1) } else D.get y := by
  by_cases ha : D.armed = 0
  · have e : D.write p r = (14, D.step) := by
      unfold Dk.write
      rw [h.may hp, if_neg (fun hh => hh rfl), h.c.under hp, if_neg (by decide), h.c.files p hp, if_neg (by decide), stepE0 ha, if_pos (by decide)]
    rw [e]
    exact .inl ⟨rfl, h.c.halt⟩
  · have e : D.write p r = (0, D.step.set p { D.at p with data := r, loose := true, anew := true }) := by
      unfold Dk.write
      rw [h.may hp, if_neg (fun hh => hh rfl), h.c.under hp, if_neg (by decide), h.c.files p hp, if_neg (by decide), stepE1 ha, if_neg (fun hh => hh rfl)]
    rw [e]
    have hk := h.c.kp.at_ p
    refine .inr ⟨rfl, ⟨h.c.step.set hp (h.c.files p hp) ⟨hz, hk.2.1, fun _ hh => by cases hh⟩, (h.step ha).up⟩, fun y => ?_⟩
    rw [Dk.get_set, Dk.get_step, step_stamps]
theorem SysU.rename (h : SysU D) {p r : List UInt8} (hp : sysF p) (hr : sysF r) (hh : D.has p = true) :
    (D.rename p r).1 = 14 ∧ Halt D (D.rename p r).2 ∨ (D.rename p r).1 = 0 ∧ SysU (D.rename p r).2 ∧ ∀ y, (D.rename p r).2.get y = if y = r then some { D.at p with stamp := IntKind.i64.wrap (D.stamps + 1) } else if y = p then none else D.get y := by
  by_cases ha : D.armed = 0
  · have e : D.rename p r = (14, D.step) := by
      unfold Dk.rename
      rw [h.may hp, if_neg (fun hh => hh rfl), h.may hr, if_neg (fun hh => hh rfl), hh, h.c.under hr, if_neg (by simp), h.c.files p hp, h.c.files r hr, if_neg (by simp), stepE0 ha, if_pos (by decide)]
    rw [e]
    exact .inl ⟨rfl, h.c.halt⟩
  · have e : D.rename p r = (0, (D.step.del p).set r (D.at p)) := by
      unfold Dk.rename
      rw [h.may hp, if_neg (fun hh => hh rfl), h.may hr, if_neg (fun hh => hh rfl), hh, h.c.under hr, if_neg (by simp), h.c.files p hp, h.c.files r hr, if_neg (by simp), stepE1 ha, if_neg (fun hh => hh rfl)]
    rw [e]
    refine .inr ⟨rfl, ⟨(h.c.step.del hp).set hr (h.c.files p hp) (h.c.kp.at_ p), (h.step ha).up⟩, fun y => ?_⟩
    rw [Dk.get_set, Dk.get_del _ h.c.step.nd, Dk.get_step]
    have : (D.step.del p).stamps = D.stamps := step_stamps D
    rw [this]
theorem SysU.fill (h : SysU D) {p s : List UInt8} (hp : sysF p) (ht : sysF (p ++ [95, 116])) (hne : p ++ [95, 116] ≠ p) (hz : s.length ≤ CB) :
    (D.fill p s).1 = 14 ∧ SysC (D.fill p s).2 ∧ (∀ y, y ≠ p ++ [95, 116] → (D.fill p s).2.get y = D.get y) ∨
    (D.fill p s).1 = 0 ∧ SysU (D.fill p s).2 ∧ Kept (D.fill p s).2 p s ∧ ∀ y, y ≠ p → y ≠ p ++ [95, 116] → (D.fill p s).2.get y = D.get y := by
  rcases h.write (r := s) ht hz with ⟨w1, w2, w3⟩ | ⟨w1, w2, w3⟩
  · have e : D.fill p s = D.write (p ++ [95, 116]) s := by unfold Dk.fill; rw [if_pos (by rw [w1]; decide)]
    rw [e]
    exact .inl ⟨w1, w2, fun y _ => w3 y⟩
  have g1 := w3 (p ++ [95, 116])
  rw [if_pos rfl] at g1
  rcases w2.sync ht (has_of_get g1) with ⟨s1, s2, s3⟩ | ⟨s1, s2, s3⟩
  · have e : D.fill p s = (D.write (p ++ [95, 116]) s).2.sync (p ++ [95, 116]) := by unfold Dk.fill; rw [if_neg (fun hh => hh w1), if_pos (by rw [s1]; decide)]
    rw [e]
    exact .inl ⟨s1, s2, fun y hy => by rw [s3, w3, if_neg hy]⟩
  have g2 := s3 (p ++ [95, 116])
  rw [if_pos rfl, at_of_get g1] at g2
  have e : D.fill p s = ((D.write (p ++ [95, 116]) s).2.sync (p ++ [95, 116])).2.rename (p ++ [95, 116]) p := by
    unfold Dk.fill
    rw [if_neg (fun hh => hh w1), if_neg (fun hh => hh s1)]
  rw [e]
  rcases s2.rename ht hp (has_of_get g2) with ⟨r1, r2, r3⟩ | ⟨r1, r2, r3⟩
  · exact .inl ⟨r1, r2, fun y hy => by rw [r3, s3, if_neg hy, w3, if_neg hy]⟩
  · refine .inr ⟨r1, r2, ⟨_, by rw [r3, if_pos rfl], ?_⟩, fun y h1 h2 => by rw [r3, if_neg h1, if_neg h2, s3, if_neg h2, w3, if_neg h2]⟩
    rw [at_of_get g2]
    exact ⟨h.c.files _ ht, rfl, rfl, rfl, rfl⟩
def LogTorn (D : Dk) (s r : List UInt8) : Prop := ∃ x, D.get sysL = some x ∧ x.dir = false ∧ x.data = s ++ r ∧ x.kept = s ∧ x.loose = true ∧ x.anew = false
theorem Kept.halt {D D' : Dk} {p s : List UInt8} (h : Kept D p s) (hg : D'.get p = D.get p) : Kept D' p s := by obtain ⟨x, h1, h2⟩ := h; exact ⟨x, hg.trans h1, h2⟩
theorem Kept.lens {p s : List UInt8} (h : Kept D p s) : (D.at p).data.length = s.length ∧ (D.at p).kept.length = s.length := by
  obtain ⟨x, e1, e2, e3, e4, _⟩ := h
  rw [at_of_get e1, e3, e4]
  exact ⟨rfl, rfl⟩
theorem SysU.walAdd (h : SysU D) {s : List UInt8} (hk : Kept D sysL s) (recs : List (List UInt8)) (dmg : Bool) (r : List UInt8) (hz : s.length + (packE r).length ≤ CB) :
    ∃ e G' D', walAdd ⟨sysL, recs, dmg⟩ D r = (e, G', D') ∧
      (e = 14 ∧ Halt D D' ∨ e = 14 ∧ SysC D' ∧ LogTorn D' s (packE r) ∧ (∀ y, y ≠ sysL → D'.get y = D.get y) ∨
       e = 0 ∧ G' = ⟨sysL, recs ++ [r], dmg⟩ ∧ SysU D' ∧ Kept D' sysL (s ++ packE r) ∧ ∀ y, y ≠ sysL → D'.get y = D.get y) := by
  obtain ⟨l1, l2⟩ := hk.lens
  obtain ⟨d1, d2⟩ := hk.data
  unfold Go.Proofs.YtccfiohagbneaaaGreatDoor.walAdd
  dsimp only
  rcases h.append (r := packE r) sysF_L hk.has (by omega) (by omega) with ⟨a1, a2⟩ | ⟨a1, a2, a3⟩
  · rw [if_pos (by rw [a1]; decide)]
    exact ⟨_, _, _, rfl, .inl ⟨a1, a2⟩⟩
  · rw [if_neg (fun hh => hh a1)]
    have g1 := a3 sysL
    rw [if_pos rfl] at g1
    rcases a2.sync sysF_L (has_of_get g1) with ⟨s1, s2, s3⟩ | ⟨s1, s2, s3⟩
    · rw [if_pos (by rw [s1]; decide)]
      refine ⟨_, _, _, rfl, .inr (.inl ⟨s1, s2, ⟨_, (s3 sysL).trans g1, d2, by rw [← d1], ?_, rfl, ?_⟩, fun y hy => by rw [s3, a3, if_neg hy]⟩)⟩
      · obtain ⟨x, e1, e2, e3, e4, _⟩ := hk
        show (D.at sysL).kept = s
        rw [at_of_get e1, e4]
      · obtain ⟨x, e1, e2, e3, e4, e5, e6⟩ := hk
        show (D.at sysL).anew = false
        rw [at_of_get e1, e6]
    · rw [if_neg (fun hh => hh s1)]
      have g2 := s3 sysL
      rw [if_pos rfl, at_of_get g1] at g2
      exact ⟨_, _, _, rfl, .inr (.inr ⟨rfl, rfl, s2, ⟨_, g2, d2, by rw [← d1], by rw [← d1], rfl, rfl⟩, fun y hy => by rw [s3, if_neg hy, a3, if_neg hy]⟩)⟩
theorem SysU.pack (h : SysU D) {s : List UInt8} (hk : Kept D sysL s) {bs : Option (List Chg)} (hb : baseIs D bs) (rows : Rws) (recs : List (List UInt8)) (dmg : Bool) (hz : (packE (recordE (packL rows))).length ≤ CB) :
    ∃ e T' D', tabPack ⟨sysP, rows, ⟨sysL, recs, dmg⟩⟩ D = (e, T', D') ∧
      (e = 14 ∧ SysC D' ∧ Kept D' sysL s ∧ (baseIs D' bs ∨ baseIs D' (some (packL rows))) ∨
       e = 0 ∧ T' = ⟨sysP, rows, ⟨sysL, [], dmg⟩⟩ ∧ SysU D' ∧ Kept D' sysL [] ∧ baseIs D' (some (packL rows))) := by
  unfold tabPack
  dsimp only
  rw [show baseP sysP = sysB from rfl]
  rcases h.fill (p := sysB) (s := packE (recordE (packL rows))) sysF_B sysF_BT (by decide) hz with ⟨f1, f2, f3⟩ | ⟨f1, f2, f3, f4⟩
  · rw [if_pos (by rw [f1]; decide)]
    exact ⟨_, _, _, rfl, .inl ⟨f1, f2, hk.halt (f3 _ (by decide)), .inl (baseIs_same (f3 _ (by decide)) hb)⟩⟩
  · rw [if_neg (fun hh => hh f1)]
    have hk2 := hk.halt (f4 sysL (by decide) (by decide))
    rcases f2.fill (p := sysL) (s := []) sysF_L sysF_LT (by decide) (Nat.zero_le _) with ⟨g1, g2, g3⟩ | ⟨g1, g2, g3, g4⟩
    · exact ⟨_, _, _, rfl, .inl ⟨g1, g2, hk2.halt (g3 _ (by decide)), .inr (baseIs_same (bs := some (packL rows)) (g3 _ (by decide)) f3)⟩⟩
    · exact ⟨_, _, _, rfl, .inr ⟨g1, by rw [g1]; rfl, g2, g3, baseIs_same (bs := some (packL rows)) (g4 _ (by decide) (by decide)) f3⟩⟩
structure TabC (D : Dk) (bs : Option (List Chg)) (ls : List (List Chg)) : Prop where
  c : SysC D
  log : Kept D sysL (frames (ls.map recordE))
  base : baseIs D bs
def Crash (D' : Dk) (bs : Option (List Chg)) (ls : List (List Chg)) (rows : Rws) (ops : List Chg) : Prop :=
  TabC D' bs ls ∨ (SysC D' ∧ LogTorn D' (frames (ls.map recordE)) (packE (recordE ops)) ∧ baseIs D' bs) ∨ TabC D' bs (ls ++ [ops]) ∨ TabC D' (some (packL (applyE rows ops))) (ls ++ [ops])
theorem frames_snoc (ls : List (List Chg)) (ops : List Chg) : frames ((ls ++ [ops]).map recordE) = frames (ls.map recordE) ++ packE (recordE ops) := by rw [← map_snoc, frames_app, frames_one]
theorem TabC.commit (h : TabC D bs ls) (hu : D.down = false) (rows : Rws) (ops : List Chg) (hne : ops ≠ []) (hz : (frames (ls.map recordE)).length + (packE (recordE ops)).length ≤ CB) (hz2 : (packE (recordE (packL (applyE rows ops)))).length ≤ CB) :
    ∃ e T' D', tabCommit ⟨sysP, rows, ⟨sysL, ls.map recordE, false⟩⟩ D ops = (e, T', D') ∧
      (e = 14 ∧ Crash D' bs ls rows ops ∨
       e = 0 ∧ D'.down = false ∧ ∃ bs' ls', T' = ⟨sysP, applyE rows ops, ⟨sysL, ls'.map recordE, false⟩⟩ ∧ TabC D' bs' ls' ∧ (bs' = bs ∧ ls' = ls ++ [ops] ∧ ls.length + 1 < 16 ∨ bs' = some (packL (applyE rows ops)) ∧ ls' = [])) := by
  obtain ⟨e, G', D', hwa, hc⟩ := SysU.walAdd ⟨h.c, hu⟩ h.log (ls.map recordE) false (recordE ops) hz
  unfold tabCommit
  dsimp only
  rw [if_neg hne, hwa]
  dsimp only
  rcases hc with ⟨rfl, h1, h2⟩ | ⟨rfl, h1, h2, h3⟩ | ⟨rfl, rfl, h2, h3, h4⟩
  · rw [if_pos (by decide)]
    exact ⟨_, _, _, rfl, .inl ⟨rfl, .inl ⟨h1, h.log.halt (h2 _), baseIs_same (h2 _) h.base⟩⟩⟩
  · rw [if_pos (by decide)]
    exact ⟨_, _, _, rfl, .inl ⟨rfl, .inr (.inl ⟨h1, h2, baseIs_same (h3 _ (by decide)) h.base⟩)⟩⟩
  · rw [if_neg (fun hh => hh rfl)]
    have hb := baseIs_same (h4 sysB (by decide)) h.base
    have h3' : Kept D' sysL (frames ((ls ++ [ops]).map recordE)) := by rw [frames_snoc]; exact h3
    by_cases hf : ls.length + 1 < 16
    · rw [if_neg (by simp; omega)]
      exact ⟨_, _, _, rfl, .inr ⟨rfl, h2.up, bs, ls ++ [ops], by rw [map_snoc], ⟨h2.c, h3', hb⟩, .inl ⟨rfl, rfl, hf⟩⟩⟩
    · rw [if_pos (by simp; omega)]
      obtain ⟨e, T', D2, hp, hc⟩ := h2.pack h3' hb (applyE rows ops) (ls.map recordE ++ [recordE ops]) false hz2
      refine ⟨_, _, _, hp, ?_⟩
      rcases hc with ⟨rfl, c1, c2, c3 | c3⟩ | ⟨rfl, rfl, c2, c3, c4⟩
      · exact .inl ⟨rfl, .inr (.inr (.inl ⟨c1, c2, c3⟩))⟩
      · exact .inl ⟨rfl, .inr (.inr (.inr ⟨c1, c2, c3⟩))⟩
      · exact .inr ⟨rfl, c2.up, _, [], rfl, ⟨c2.c, c3, c4⟩, .inr ⟨rfl, rfl⟩⟩
def lostI (loss n st : Int) (x : It) : It := if x.loose then ⟨x.dir, loseK loss n x, loseK loss n x, false, false, st⟩ else x
def LoseR (loss : Int) (a b : Option It) : Prop := (a = none → b = none) ∧ ∀ x, a = some x → ∃ n st, b = some (lostI loss n st x)
theorem lose1_get (loss : Int) (s : Int × Dk) (p y : List UInt8) : (y ≠ p → (lose1 loss s p).2.get y = s.2.get y) ∧ (y = p → LoseR loss (s.2.get y) ((lose1 loss s p).2.get y)) := by
  unfold lose1
  split
  · rename_i hl
    refine ⟨fun h => by rw [Dk.get_set, if_neg h], fun h => ?_⟩
    subst h
    rw [Dk.get_set, if_pos rfl]
    refine ⟨fun h => ?_, fun x h => ?_⟩
    · rw [Dk.at_get, h] at hl; cases hl
    · have ha := at_of_get h
      rw [ha] at hl ⊢
      refine ⟨s.1 + 1, IntKind.i64.wrap (s.2.stamps + 1), ?_⟩
      unfold lostI
      rw [if_pos hl]
  · rename_i hl
    refine ⟨fun _ => rfl, fun h => ?_⟩
    subst h
    refine ⟨fun h => h, fun x h => ⟨0, 0, ?_⟩⟩
    have ha := at_of_get h
    rw [ha] at hl
    unfold lostI
    rw [if_neg hl]
    exact h
theorem lose_fold (loss : Int) : ∀ (ks : List (List UInt8)) (s : Int × Dk), ks.Nodup → ∀ y, (y ∉ ks → (ks.foldl (lose1 loss) s).2.get y = s.2.get y) ∧ (y ∈ ks → LoseR loss (s.2.get y) ((ks.foldl (lose1 loss) s).2.get y))
  | [], s, _, y => ⟨fun _ => rfl, fun h => by simp at h⟩
  | k :: ks, s, hn, y => by
    obtain ⟨hk, hn⟩ := List.nodup_cons.1 hn
    obtain ⟨i1, i2⟩ := lose_fold loss ks (lose1 loss s k) hn y
    obtain ⟨j1, j2⟩ := lose1_get loss s k y
    rw [List.foldl_cons]
    refine ⟨fun h => ?_, fun h => ?_⟩
    · have h : y ≠ k ∧ y ∉ ks := by simpa using h
      rw [i1 h.2, j1 h.1]
    · by_cases e : y = k
      · have := i1 (by rw [e]; exact hk)
        rw [this]
        exact j2 e
      · have hm : y ∈ ks := by
          rcases List.mem_cons.1 h with h | h
          · exact absurd h e
          · exact h
        have := i2 hm
        rwa [j1 e] at this
theorem SysC.lose1 {loss : Int} {s : Int × Dk} (h : SysC s.2) {p : List UInt8} (hp : p = sysP ∨ sysF p) : SysC (Go.Proofs.YtccfiohagbneaaaGreatDoor.lose1 loss s p).2 := by
  unfold Go.Proofs.YtccfiohagbneaaaGreatDoor.lose1
  split
  · rename_i hl
    rcases hp with rfl | hp
    · rw [h.firm] at hl; cases hl
    · have hk := h.kp.at_ p
      have := loseK_len loss (s.1 + 1) (s.2.at p) hk.1 hk.2.1
      exact h.set hp (h.files p hp) ⟨this, this, fun hh => by cases hh⟩
  · exact h
theorem SysC.loses {loss : Int} : ∀ {ks : List (List UInt8)} {s : Int × Dk}, SysC s.2 → (∀ p ∈ ks, p = sysP ∨ sysF p) → SysC (ks.foldl (Go.Proofs.YtccfiohagbneaaaGreatDoor.lose1 loss) s).2
  | [], _, h, _ => h
  | k :: ks, s, h, hk => SysC.loses (ks := ks) (s := Go.Proofs.YtccfiohagbneaaaGreatDoor.lose1 loss s k) (h.lose1 (hk k (List.mem_cons_self ..))) fun p hp => hk p (List.mem_cons_of_mem _ hp)
theorem SysC.restart (h : SysC D) (loss : Int) : Sys (D.restart loss) ∧ SysC (D.restart loss) ∧ ∀ y, LoseR loss (D.get y) ((D.restart loss).get y) := by
  have hperm : D.keys.Perm (D.items.map Prod.fst) := List.mergeSort_perm _ _
  have hks : ∀ p ∈ D.keys, p = sysP ∨ sysF p := fun p hp => by
    obtain ⟨x, hx, rfl⟩ := List.mem_map.1 (hperm.mem_iff.1 hp)
    exact h.keys x hx
  have h1 : SysC (D.lose loss).2 := SysC.loses (s := (0, D)) h hks
  have h2 : SysC (D.restart loss) := ⟨h1.lim, h1.nd, h1.dir, h1.has, h1.files, h1.keys, h1.kp, h1.firm⟩
  refine ⟨⟨rfl, (by decide : (-1 : Int) < 0), h2.lim, h2.nd, h2.dir, h2.has, h2.files⟩, h2, fun y => ?_⟩
  have hf := lose_fold loss D.keys (0, D) (hperm.nodup_iff.2 h.nd) y
  by_cases hy : y ∈ D.keys
  · exact hf.2 hy
  · have hg : (D.restart loss).get y = D.get y := hf.1 hy
    have hn : D.get y = none := mget_none.2 fun hh => hy (hperm.mem_iff.2 hh)
    rw [hg, hn]
    exact ⟨fun h => h, fun x hx => by cases hx⟩
theorem LoseR.kept {D' : Dk} {loss : Int} {p s : List UInt8} (h : LoseR loss (D.get p) (D'.get p)) (hk : Kept D p s) : Kept D' p s := by
  obtain ⟨x, h1, h2, h3, h4, h5, h6⟩ := hk
  obtain ⟨n, st, e⟩ := h.2 x h1
  refine ⟨x, ?_, h2, h3, h4, h5, h6⟩
  rw [e]
  unfold lostI
  rw [h5]
  rfl
theorem LoseR.base {D' : Dk} {loss : Int} (h : LoseR loss (D.get sysB) (D'.get sysB)) (hb : baseIs D bs) : baseIs D' bs := by
  cases bs with
  | none => exact h.1 hb
  | some ops => exact LoseR.kept h hb
theorem LoseR.torn {D' : Dk} {loss : Int} {s r : List UInt8} (h : LoseR loss (D.get sysL) (D'.get sysL)) (ht : LogTorn D s r) : ∃ m, m ≤ r.length ∧ Kept D' sysL (s ++ r.take m) := by
  obtain ⟨⟨dir, data, kept, loose, anew, stamp⟩, h1, h2, h3, h4, h5, h6⟩ := ht
  dsimp only at h2 h3 h4 h5 h6
  rw [h2, h3, h4, h5, h6] at h1
  clear h2 h3 h4 h5 h6
  obtain ⟨n, st, e⟩ := h.2 _ h1
  have he0 := Int.emod_nonneg (mixE (IntKind.u64.wrap loss) n) (show (((s ++ r).length : Int) - s.length + 1) ≠ 0 by rw [List.length_append]; omega)
  have he1 := Int.emod_lt_of_pos (mixE (IntKind.u64.wrap loss) n) (show (0 : Int) < ((s ++ r).length : Int) - s.length + 1 by rw [List.length_append]; omega)
  obtain ⟨m, hm⟩ : ∃ mm : Nat, mixE (IntKind.u64.wrap loss) n % (((s ++ r).length : Int) - s.length + 1) = (mm : Int) := ⟨_, (Int.toNat_of_nonneg he0).symm⟩
  rw [hm] at he0 he1
  have hml : m ≤ r.length := by rw [List.length_append] at he1; omega
  have hK : loseK loss n ⟨false, s ++ r, s, true, false, stamp⟩ = s ++ r.take m := by
    unfold loseK
    rw [if_neg (show ¬ false = true by decide)]
    dsimp only
    rw [hm, show ((s.length : Int) + (m : Int)).toNat = s.length + m by omega, List.take_append, List.take_of_length_le (by omega), Nat.add_sub_cancel_left]
  refine ⟨m, hml, _, e, ?_⟩
  unfold lostI
  rw [if_pos (show true = true from rfl), hK]
  exact ⟨rfl, rfl, rfl, rfl, rfl⟩
end
end Go.Proofs.YtccfiohagbneaaaGreatDoor

/- What is proved: a table opened behind a beginning, wherever the machine stops in it. Conditions: as each names them. -/
namespace Go.Proofs.YtccfiohagbneaaaGreatDoor
open Go Go.J Go.RowKit
structure TabW (bs : Option (List Chg)) (ls : List (List Chg)) : Prop where
  tot : (frames (ls.map recordE)).length ≤ 900000000
  clean : ∀ l ∈ ls, Clean l
  small : ∀ l ∈ ls, szL l ≤ 8000000
  bclean : Clean (bs.getD [])
  bsmall : szL (bs.getD []) ≤ 100000000
structure Post (D : Dk) (bs : Option (List Chg)) (ls : List (List Chg)) : Prop where
  c : SysC D
  log : ∃ tail, Kept D sysL (frames (ls.map recordE) ++ tail) ∧ (tail = [] ∨ ∃ r j, tail = (packE r).take j ∧ 0 < j ∧ j < (packE r).length ∧ r.length < 9223372036854775808)
  base : baseIs D bs
section
variable {D : Dk} {bs : Option (List Chg)} {ls : List (List Chg)}
theorem TabC.post (h : TabC D bs ls) : Post D bs ls := ⟨h.c, ⟨[], by rw [List.append_nil]; exact h.log, .inl rfl⟩, h.base⟩
theorem Kept.readU {p s : List UInt8} (h : Kept D p s) (hu : D.down = false) : D.read p = (s, 0) := by
  obtain ⟨h1, h2⟩ := h.data
  unfold Dk.read
  rw [hu, if_neg (by decide), h.has, if_neg (by decide), h2, if_neg (by decide), h1]
theorem SysC.kindP (h : SysC D) : D.kind sysP = 1 := by
  unfold Dk.kind
  rw [h.has, if_pos rfl, h.dir, if_pos rfl]
theorem tabBase_of (hu : D.down = false) (hbase : baseIs D bs) (hw : TabW bs ls) : tabBase D sysP = (0, applyE [] (bs.getD [])) := by
  have hbp : baseP sysP = sysB := rfl
  unfold tabBase
  rw [hbp]
  cases bs with
  | none =>
    have hbase : D.get sysB = none := hbase
    have hk : D.kind sysB = 0 := by unfold Dk.kind; rw [Dk.has_get, hbase]; rfl
    rw [if_pos hk]
    rfl
  | some ops =>
    have hbase : Kept D sysB (packE (recordE ops)) := hbase
    have hsm : szL ops ≤ 100000000 := hw.bsmall
    have hl := szL_len ops
    have hrl := recordE_len ops (smO_of (by omega)) (by omega)
    have ho := opsE_record ops (smO_of (by omega)) (by omega)
    rw [norm_clean (show Clean ops from hw.bclean)] at ho
    rw [hbase.kind, if_neg (by decide)]
    unfold tabLoad
    rw [hbp, hbase.readU hu]
    dsimp only
    rw [if_neg (fun h => h rfl), readE_pack0 _ (by omega)]
    dsimp only
    rw [if_neg (fun h => h rfl), if_neg (Nat.lt_irrefl _), ho]
    dsimp only
    rw [if_neg (fun h => h rfl)]
    rfl
theorem TabW.recs (hw : TabW bs ls) : ∀ r ∈ ls.map recordE, r.length ≤ 8000010 := fun r hr => by
  obtain ⟨l, hl, rfl⟩ := List.mem_map.1 hr
  have h1 := hw.small l hl
  have h2 := szL_len l
  have := recordE_len l (smO_of (by omega)) (by omega)
  omega
theorem TabW.frames (hw : TabW bs ls) : (frames (ls.map recordE)).length ≤ 900000000 := hw.tot
theorem open_of (h : SysC D) (hu : D.down = false) (hb : baseIs D bs) (hw : TabW bs ls) : tabOpen D sysP = tabLog sysP (applyE [] (bs.getD [])) (walOpen D sysL) := by
  have hmk : tabMk D sysP = (0, D) := by unfold tabMk; rw [h.kindP, if_neg (by decide)]
  unfold tabOpen
  rw [hmk]
  dsimp only
  rw [if_neg (fun h => h rfl), tabBase_of hu hb hw]
  dsimp only
  rw [if_neg (fun h => h rfl)]
  rfl
theorem tabLog_of (hw : TabW bs ls) (D' : Dk) : tabLog sysP (applyE [] (bs.getD [])) (0, some ⟨sysL, ls.map recordE, false⟩, D') = (0, some ⟨sysP, rowsOf bs ls, ⟨sysL, ls.map recordE, false⟩⟩, D') := by
  unfold tabLog
  dsimp only
  rw [replay_recs ls _ hw.clean (fun l hl => by have := hw.small l hl; omega), if_neg (fun h => h rfl)]
  rfl
theorem Post.wopen (h : Post D bs ls) (hu : D.down = false) (hw : TabW bs ls) :
    ∃ D', walOpen D sysL = (0, some ⟨sysL, ls.map recordE, false⟩, D') ∧ D'.down = false ∧ TabC D' bs ls ∨ walOpen D sysL = (14, none, D') ∧ Post D' bs ls := by
  obtain ⟨tail, hk, ht⟩ := h.log
  have hrs : ∀ r ∈ ls.map recordE, r.length < 9223372036854775808 := fun r hr => by have := hw.recs r hr; omega
  rcases ht with rfl | ⟨r, j, rfl, h0, hj, hr⟩
  · rw [List.append_nil] at hk
    refine ⟨D, .inl ⟨?_, hu, ⟨h.c, hk, h.base⟩⟩⟩
    unfold Go.Proofs.YtccfiohagbneaaaGreatDoor.walOpen
    rw [hk.kind, if_neg (by decide), hk.readU hu]
    dsimp only
    rw [if_neg (fun h => h rfl), scanE_whole _ hrs]
    rfl
  · have hsc := scanE_torn (ls.map recordE) r j (fun u hu => by
      rcases List.mem_append.1 hu with hu | hu
      · exact hrs u hu
      · rw [List.mem_singleton.1 hu]; exact hr) hj h0
    have hf := hw.frames
    have htk : (frames (ls.map recordE) ++ (packE r).take j).take (frames (ls.map recordE)).length = frames (ls.map recordE) := by simp
    unfold Go.Proofs.YtccfiohagbneaaaGreatDoor.walOpen
    rw [hk.kind, if_neg (by decide), hk.readU hu]
    dsimp only
    rw [if_neg (fun h => h rfl), hsc]
    dsimp only
    rw [if_pos (by decide), htk]
    rcases SysU.fill (p := sysL) (s := frames (ls.map recordE)) ⟨h.c, hu⟩ sysF_L sysF_LT (by decide) (by unfold CB; omega) with ⟨f1, f2, f3⟩ | ⟨f1, f2, f3, f4⟩
    · rw [if_pos (by rw [f1]; decide), f1]
      exact ⟨_, .inr ⟨rfl, f2, ⟨_, hk.halt (f3 _ (by decide)), .inr ⟨r, j, rfl, h0, hj, hr⟩⟩, baseIs_same (f3 _ (by decide)) h.base⟩⟩
    · rw [if_neg (fun hh => hh f1)]
      exact ⟨_, .inl ⟨rfl, f2.up, ⟨f2.c, f3, baseIs_same (f4 _ (by decide) (by decide)) h.base⟩⟩⟩
theorem Post.openT (h : Post D bs ls) (hu : D.down = false) (hw : TabW bs ls) :
    ∃ D', tabOpen D sysP = (0, some ⟨sysP, rowsOf bs ls, ⟨sysL, ls.map recordE, false⟩⟩, D') ∧ D'.down = false ∧ TabC D' bs ls ∨ tabOpen D sysP = (14, none, D') := by
  obtain ⟨D', ⟨h1, h2, h3⟩ | ⟨h1, h2⟩⟩ := h.wopen hu hw
  · exact ⟨D', .inl ⟨by rw [open_of h.c hu h.base hw, h1]; exact tabLog_of hw D', h2, h3⟩⟩
  · exact ⟨D', .inr (by rw [open_of h.c hu h.base hw, h1]; rfl)⟩
theorem Post.open (h : Post D bs ls) (hu : D.down = false) (hw : TabW bs ls) :
    ∃ D', tabOpen D sysP = (0, some ⟨sysP, rowsOf bs ls, ⟨sysL, ls.map recordE, false⟩⟩, D') ∧ Post D' bs ls ∨ tabOpen D sysP = (14, none, D') ∧ Post D' bs ls := by
  obtain ⟨D', ⟨h1, h2, h3⟩ | ⟨h1, h2⟩⟩ := h.wopen hu hw
  · exact ⟨D', .inl ⟨by rw [open_of h.c hu h.base hw, h1]; exact tabLog_of hw D', h3.post⟩⟩
  · exact ⟨D', .inr ⟨by rw [open_of h.c hu h.base hw, h1]; rfl, h2⟩⟩
theorem Post.restart (h : Post D bs ls) (loss : Int) : Sys (D.restart loss) ∧ Post (D.restart loss) bs ls := by
  obtain ⟨h1, h2, h3⟩ := h.c.restart loss
  obtain ⟨tail, hk, ht⟩ := h.log
  exact ⟨h1, h2, ⟨tail, (h3 _).kept hk, ht⟩, (h3 _).base h.base⟩
theorem Crash.restart {rows : Rws} {ops : List Chg} (h : Crash D bs ls rows ops) (hr : (recordE ops).length < 9223372036854775808) (loss : Int) :
    ∃ bs' ls', Sys (D.restart loss) ∧ Post (D.restart loss) bs' ls' ∧ (bs' = bs ∧ ls' = ls ∨ bs' = bs ∧ ls' = ls ++ [ops] ∨ bs' = some (packL (applyE rows ops)) ∧ ls' = ls ++ [ops]) := by
  rcases h with h | ⟨h1, h2, h3⟩ | h | h
  · obtain ⟨a, b⟩ := h.post.restart loss
    exact ⟨_, _, a, b, .inl ⟨rfl, rfl⟩⟩
  · obtain ⟨a1, a2, a3⟩ := h1.restart loss
    obtain ⟨m, hm, hk⟩ := (a3 sysL).torn h2
    have hb := (a3 sysB).base h3
    by_cases m0 : m = 0
    · subst m0
      exact ⟨bs, ls, a1, ⟨a2, ⟨_, hk, .inl rfl⟩, hb⟩, .inl ⟨rfl, rfl⟩⟩
    · by_cases m1 : m = (packE (recordE ops)).length
      · subst m1
        rw [List.take_length, ← frames_snoc] at hk
        exact ⟨bs, ls ++ [ops], a1, TabC.post ⟨a2, hk, hb⟩, .inr (.inl ⟨rfl, rfl⟩)⟩
      · exact ⟨bs, ls, a1, ⟨a2, ⟨_, hk, .inr ⟨recordE ops, m, rfl, by omega, by omega, hr⟩⟩, hb⟩, .inl ⟨rfl, rfl⟩⟩
  · obtain ⟨a, b⟩ := h.post.restart loss
    exact ⟨_, _, a, b, .inr (.inl ⟨rfl, rfl⟩)⟩
  · obtain ⟨a, b⟩ := h.post.restart loss
    exact ⟨_, _, a, b, .inr (.inr ⟨rfl, rfl⟩)⟩
end
end Go.Proofs.YtccfiohagbneaaaGreatDoor

/- What is proved: 'slices.Sort' of a row of texts that the caller owns. Conditions: bounded length. -/
namespace Go.Proofs.YtccfiohagbneaaaGreatDoor
open Go Go.J Go.RowKit Go.Maps Go.Sort Go.Shelf
theorem strs_enc (l : List (List UInt8)) : l.map encStr = strs l := by
  induction l with
  | nil => rfl
  | cons a l ih => simp only [List.map_cons, ih]; rfl
theorem RowAt.put {w : World} {e : TypeId} {g off n cap : Nat} {xs : List Value} (h : RowAt w e 1 (.slice (some ⟨g, off, none⟩) n cap) n xs) (ys : List (List UInt8)) (hy : ys.length = n) (k : Nat) (os : Array Obj) :
    RowAt (grow (putRow encStr (Sort.ahead w k) g off ys.toArray) os) e 1 (.slice (some ⟨g, off, none⟩) n cap) n (strs ys) ∧ Upd [g] w (grow (putRow encStr (Sort.ahead w k) g off ys.toArray) os) := by
  rcases h.2 with ⟨e0, _⟩ | ⟨g', off', cap', cur, e0, hg, hn, hm, hs, ht⟩
  · cases e0
  · simp only [Value.slice.injEq, Option.some.injEq, Addr.mk.injEq, true_and, and_true] at e0
    obtain ⟨⟨rfl, rfl⟩, rfl⟩ := e0
    have hlt : g < w.heap.size := (Array.getElem?_eq_some_iff.1 hg).1
    have hsz : (putRow encStr (Sort.ahead w k) g off ys.toArray).heap.size = w.heap.size := by rw [Go.Sort.size_putRow]; rfl
    have hput : (putRow encStr (Sort.ahead w k) g off ys.toArray).heap[g]? = some (.cells (putCells encStr off ys.toArray ⟨cur⟩) e (0, 0)) := by
      simp [putRow, mapBlock, Sort.ahead, Array.getElem?_modify, hg, onCells]
    have hgr : ∀ b, b < w.heap.size → (grow (putRow encStr (Sort.ahead w k) g off ys.toArray) os).heap[b]? = (putRow encStr (Sort.ahead w k) g off ys.toArray).heap[b]? := fun b hb => by
      show ((putRow encStr (Sort.ahead w k) g off ys.toArray).heap ++ os)[b]? = _
      rw [Array.getElem?_append_left (by rw [hsz]; exact hb)]
    refine ⟨⟨by rw [strs_len, hy, Nat.mul_one], .inr ⟨g, off, cap, (putCells encStr off ys.toArray ⟨cur⟩).toList, rfl, ?_, hn, hm, ?_, ?_⟩⟩, ⟨rfl, rfl, rfl, ?_, fun b hb hnb => ?_⟩⟩
    · rw [hgr g hlt, hput]
    · simpa [putCells] using hs
    · apply List.ext_getElem?
      intro j
      rw [List.getElem?_take, List.getElem?_drop, Array.getElem?_toList, ← strs_enc, List.getElem?_map]
      by_cases hj : j < n
      · have hjc : off + j < cur.length := by omega
        simp only [Nat.mul_one, if_pos hj, putCells, Array.getElem?_mapIdx]
        rw [show (Array.mk cur)[off + j]? = some cur[off + j] from by rw [show (Array.mk cur) = cur.toArray from rfl, List.getElem?_toArray]; exact List.getElem?_eq_getElem hjc]
        simp only [Option.map_some]
        rw [if_pos (by simp; omega), List.getElem?_eq_getElem (by omega)]
        simp [getElem!_pos, show j < ys.length by omega]
      · rw [if_neg (by omega), List.getElem?_eq_none (by omega)]
        rfl
    · show w.heap.size ≤ ((putRow encStr (Sort.ahead w k) g off ys.toArray).heap ++ os).size
      rw [Array.size_append, hsz]
      exact Nat.le_add_right _ _
    · rw [hgr b hb]
      have hne : ¬ g = b := fun e => hnb (by rw [← e]; exact List.mem_cons_self ..)
      simp [putRow, mapBlock, Sort.ahead, Array.getElem?_modify, hne]
theorem RowAt.holdsS {w : World} {e : TypeId} {g off n cap : Nat} {l : List (List UInt8)} (h : RowAt w e 1 (.slice (some ⟨g, off, none⟩) n cap) n (strs l)) (hl : l.length = n) : Holds encStr w g off l.toArray := by
  intro j hj
  have hj' : j < l.length := by simpa using hj
  rcases h.2 with ⟨e0, _⟩ | ⟨g', off', cap', cur, e0, hg, hn, hm, hs, ht⟩
  · cases e0
  · simp only [Value.slice.injEq, Option.some.injEq, Addr.mk.injEq, true_and, and_true] at e0
    obtain ⟨⟨rfl, rfl⟩, rfl⟩ := e0
    refine ⟨?_, by simp [World.frozen?, hg]⟩
    have hc := h.cells j (str l[j]) (by rw [strs_at hj'])
    rw [hc]
    simp [getElem!_pos, hj', encStr]
theorem sort_perm' {a b : List (List UInt8)} (h : a.Perm b) : a.mergeSort (fun x y => decide (x ≤ y)) = b.mergeSort (fun x y => decide (x ≤ y)) := mergeSort_of_perm h
theorem sort_c {A : Option Addr} {cap : Nat} {l : List (List UInt8)} {w0 : World} (hc : (Chunk.own (.slice A l.length cap) 9 1 l.length (strs l)).holds w0) (hi : inB (.own (.slice A l.length cap) 9 1 l.length (strs l)) w0) (hl : l.length ≤ 1099511627776) :
    Cal Tryz.prog 138 [.slice A l.length cap] w0 (fun v w' => v = .tuple #[] ∧ Mut w0 w' (.own (.slice A l.length cap) 9 1 l.length (strs l)) (.own (.slice A l.length cap) 9 1 l.length (strs (l.mergeSort (fun x y => decide (x ≤ y)))))) := by
  rcases l with _ | ⟨x, l⟩
  · exact ⟨by kernel_rfl, (AnyM.slices_Sort_string_none Tryz.sortL A cap w0).mono fun e w' ⟨h1, h2⟩ => ⟨_, h1, rfl, by rw [h2, List.mergeSort_nil]; exact ⟨.refl _ _, hc, fun b hb => .inl hb⟩⟩⟩
  · generalize hll : x :: l = ll at *
    have hpos : 0 < ll.length := by rw [← hll]; simp
    have hA : ∃ g off, A = some ⟨g, off, none⟩ := by
      rcases hc.2 with ⟨e0, hz⟩ | ⟨g, off, cap', cur, e0, _⟩
      · omega
      · simp only [Value.slice.injEq] at e0; exact ⟨g, off, e0.1⟩
    obtain ⟨g, off, rfl⟩ := hA
    have hg : g < w0.heap.size := hi g (by simp [Chunk.fp, Value.ownBlock])
    refine ⟨by kernel_rfl, (AnyM.slices_Sort_string Tryz.sortL g off cap ll w0 (RowAt.holdsS hc rfl) hg (by omega)).mono fun e w' ⟨h1, n, os, h2⟩ => ⟨_, h1, rfl, ?_⟩⟩
    subst h2
    have hlen : (ll.mergeSort (fun x y => decide (x ≤ y))).length = ll.length := (List.mergeSort_perm _ _).length_eq
    obtain ⟨r1, r2⟩ := RowAt.put hc (ll.mergeSort (fun x y => decide (x ≤ y))) hlen n os
    exact ⟨by simpa [Chunk.fp, Value.ownBlock] using r2, r1, fun b hb => .inl hb⟩
end Go.Proofs.YtccfiohagbneaaaGreatDoor

/- What is proved: the keys of a table and of a batch. Conditions: lists of bounded length. -/
namespace Go.Proofs.YtccfiohagbneaaaGreatDoor
open Go Go.J Go.RowKit
def begB (p k : List UInt8) : Bool := decide (k.take p.length = p)
def sortL (l : List (List UInt8)) : List (List UInt8) := l.mergeSort (fun x y => decide (x ≤ y))
theorem sortL_len (l : List (List UInt8)) : (sortL l).length = l.length := (List.mergeSort_perm _ _).length_eq
def keysP (rows : Rws) (p : List UInt8) : List (List UInt8) := sortL ((rows.map Prod.fst).filter (begB p))
theorem sort_perm {a b : List (List UInt8)} (h : a.Perm b) : sortL a = sortL b := sort_perm' h
theorem mmap_fst {β γ : Type} (f : β → γ) (m : List (List UInt8 × β)) : (mmap f m).map Prod.fst = m.map Prod.fst := by unfold mmap; rw [List.map_map]; rfl
theorem perm_mid {α : Type} (l1 l2 : List α) (x : α) : (l1 ++ x :: l2).Perm (x :: (l1 ++ l2)) := List.perm_middle
set_option maxHeartbeats 16000000 in
set_option maxRecDepth 100000 in
theorem tkeys_c {Tp q : Nat} {T : Tb} {fp : List Nat} (p : List UInt8) {w0 : World} (hi : InL w0 [tabC Tp q T fp]) (hn : T.rows.length ≤ 1099511627776) :
    Cal Tryz.prog 104 [.pointer (some ⟨Tp, 0, none⟩), str p] w0 (fun v w' => ∃ A cap, v = .slice A (keysP T.rows p).length cap ∧ MutL w0 w' [tabC Tp q T fp] [tabC Tp q T fp, .own (.slice A (keysP T.rows p).length cap) 9 1 (keysP T.rows p).length (strs (keysP T.rows p))]) := by
  refine Cal.mkL hi (by kernel_rfl) Tryz.func104 rfl rfl fun hS => ?_
  obtain ⟨_, ⟨m, L, fpl, rfl⟩, hfp, hS⟩ := St.objOpen (H := []) hS
  replace hS : St w0 (fps [tabC Tp q T fp]) w0 [tbB Tp (some ⟨q, 0, none⟩) T.dir (some ⟨L, 0, none⟩) m, rowsC m T.rows, lgC L q T.log fpl] (ZL w0 [tabC Tp q T fp]) := hS
  obtain ⟨rows, hrows⟩ : ∃ r, r = T.rows := ⟨_, rfl⟩
  rw [← hrows] at hS hn ⊢
  repeat' (first | (show WL _ _ _ _ _ _ _; first | refine WL.pure rfl rfl rfl rfl ?_ | refine WL.nil ?_ | refine WL.load hS rfl rfl (LdOk.box Mm rfl) rfl rfl rfl ?_ | (refine WL.slit (t := 56) hS rfl rfl rfl rfl rfl ?_; intro w ob hS; have hS := hS.boxRow (n := 0) (size := 1) .here rfl (Nat.zero_le _)) | (refine WL.mrange hS rfl rfl rfl (fun r => Rp) rfl rfl rfl ?_; intro w r hS)) | (show WC _ _ _ _ _ _; first | refine WC.seq ?_ | refine WC.region ?_ | refine WC.block ?_ | refine WC.skip ?_ | refine WC.condF rfl (by with_reducible rfl) ?_) | refine seqQ_n ?_)
  replace hS := hS.droplast2 (D := [.own (.slice (some ⟨ob, 0, none⟩) 0 0) 9 1 0 [], rngC m r (mmap encRow rows) (mmap encRow rows) none, tbB Tp (some ⟨q, 0, none⟩) T.dir (some ⟨L, 0, none⟩) m, lgC L q T.log fpl]) Pu
  refine WC.loop (σ := List (List UInt8) × KV × Option (List UInt8 × Value) × Option Addr × Nat) [1, 15] (fun (d, left, cur, A, cap) => [(5, .slice A d.length cap)])
    (fun (d, left, cur, A, cap) w => (d ++ (left.map Prod.fst).filter (begB p)).Perm ((rows.map Prod.fst).filter (begB p)) ∧ d.length + left.length ≤ rows.length ∧ St w0 (fps [tabC Tp q T fp]) w [.own (.slice A d.length cap) 9 1 d.length (strs d), rngC m r (mmap encRow rows) left cur, tbB Tp (some ⟨q, 0, none⟩) T.dir (some ⟨L, 0, none⟩) m, lgC L q T.log fpl] (ZL w0 [tabC Tp q T fp]))
    (fun (d, left, cur, A, cap) => left.length) ([], mmap encRow rows, none, some ⟨ob, 0, none⟩, 0) ⟨by rw [mmap_fst]; exact .refl _, by unfold mmap; simp, hS⟩ ⟨rfl, trivial⟩ ?_
  clear hS
  rintro ⟨d, left, cur, A, cap⟩ g w ⟨hpm, hdl, hS⟩
  show WC _ _ _ (lf _ [(5, .slice A d.length cap)] _ _) _ _
  rcases left with _ | ⟨x, left⟩
  · rw [List.map_nil, List.filter_nil, List.append_nil] at hpm
    have hsl : sortL d = keysP rows p := sort_perm hpm
    have hsn : d.length = (keysP rows p).length := by rw [← hsl, sortL_len]
    simp only [List.length_nil, Nat.add_zero] at hdl
    repeat' (first | (show WL _ _ _ _ _ _ _; first | refine WL.pure rfl rfl rfl rfl ?_ | refine WL.nil ?_ | (refine WL.mnext hS rfl rfl (fun l' p => Rp) rfl rfl rfl (fun _ => ?_) (fun l1 k v l2 h => absurd h (by simp))) | (refine WL.callL (D := [.own (.slice A d.length cap) 9 1 d.length (strs d)]) hS Pu rfl rfl (fun hI => sort_c hI.head hI.headB (by omega)) rfl rfl rfl ?_; rintro v w ⟨rfl, hm⟩ hS; replace hS := hS _ (.of1 hm); clear hm)) | (show WC _ _ _ _ _ _; first | refine WC.seq ?_ | refine WC.region ?_ | refine WC.exit ?_ | refine WC.ret ?_ | refine WC.condF rfl (by with_reducible rfl) ?_) | refine seqQ_n ?_ | refine seqQ_x ?_ | refine blkQ_hit rfl ?_ | refine rndQ_x ?_)
    have hS := hS.rngEnd (H' := [.own (.slice A d.length cap) 9 1 d.length (strs (sortL d)), mapC m (mmap encRow rows), tbB Tp (some ⟨q, 0, none⟩) T.dir (some ⟨L, 0, none⟩) m, lgC L q T.log fpl]) Rp
    subst hrows
    have hS := St.objClose (φ := tabφ Tp q T) (hS.pulls (D := [tbB Tp (some ⟨q, 0, none⟩) T.dir (some ⟨L, 0, none⟩) m, rowsC m T.rows, lgC L q T.log fpl]) Pu) ⟨m, L, fpl, rfl⟩
    rw [← hfp, hsl, hsn] at hS
    exact fin1r rfl rfl ⟨A, cap, by rw [hsn], hS.mutLp Pu⟩
  · have hcap := (hS.own_len (List.Mem.head _)).2.2
    repeat' (first | (show WL _ _ _ _ _ _ _; first | refine WL.pure rfl rfl rfl rfl ?_ | refine WL.nil ?_ | (refine WL.mnext hS rfl rfl (fun l' p => Rp) rfl rfl rfl (fun h => absurd h (by simp)) (fun l1 k v l2 hleft w hS => ?_)) | (refine WL.mentry hS rfl rfl Mm rfl rfl rfl ?_) | (refine WL.calls hS rfl rfl (hasPrefix_c k p _) rfl rfl rfl ?_; rintro v w rfl hS) | (refine WL.app hS rfl rfl rfl rfl (RdOk.box Mm) rfl rfl (fun A cap => Rp) (by omega) rfl rfl rfl ?_; intro A3 cap3 w hS) | (refine WL.slit hS rfl rfl rfl rfl rfl ?_; intro w b hS)) | (show WC _ _ _ _ _ _; first | refine WC.seq ?_ | refine WC.region ?_ | refine WC.block ?_ | refine WC.skip ?_ | refine WC.condT rfl (by with_reducible rfl) ?_ | (refine WC.cond rfl (fun h => ?_) (fun h => ?_) <;> (try simp only [ZZ0, ZZ1, ZZ2, ZZ3, ZZ4, ZZ5, ZZ6, ZZ7, ZZ8, ZZ9, ZZ10, ZZ11, ZZ12, ZZ13, ZZ14, ZZ15] at h) <;> (try (exfalso; first | omega | contradiction)))) | refine seqQ_n ?_ | refine blkQ_n ?_)
    all_goals
      rw [hleft] at hpm hdl
      have hpm2 : (d ++ ((k :: (l1 ++ l2).map Prod.fst).filter (begB p))).Perm ((rows.map Prod.fst).filter (begB p)) := by
        refine List.Perm.trans ?_ hpm
        refine List.Perm.append_left d (List.Perm.filter _ ?_)
        rw [List.map_append, List.map_append, List.map_cons]
        exact List.perm_middle.symm
    · have hb : begB p k = true := decide_eq_true h
      rw [List.filter_cons_of_pos hb] at hpm2
      exact rndQ_n (d ++ [k], l1 ++ l2, some (k, _), A3, cap3) ⟨by rw [List.append_assoc]; exact hpm2, by simp at hdl ⊢; omega, by
        have hS := hS.drop
        rw [List.length_append, ← strs_snoc]
        exact hS⟩ (by show (l1 ++ l2).length < (x :: left).length; rw [hleft]; simp) ⟨by rw [List.length_append]; rfl, trivial⟩ ⟨rfl, rfl, trivial⟩
    · have hb : ¬ begB p k = true := by unfold begB; rw [decide_eq_false h]; decide
      rw [List.filter_cons_of_neg hb] at hpm2
      exact rndQ_n (d, l1 ++ l2, some (k, _), A, cap) ⟨hpm2, by simp at hdl ⊢; omega, hS⟩ (by show (l1 ++ l2).length < (x :: left).length; rw [hleft]; simp) ⟨rfl, trivial⟩ ⟨rfl, rfl, trivial⟩
def newB (rows : Rws) (p : List UInt8) (x : List UInt8 × Chg) : Bool := !(mget rows x.1).isSome && !x.2.gone && begB p x.1
def oldB (m : Bch) (k : List UInt8) : Bool := !((mget m k).getD Chg0).gone
def bkeysP (rows : Rws) (m : Bch) (p : List UInt8) : List (List UInt8) := sortL ((keysP rows p).filter (oldB m) ++ (m.filter (newB rows p)).map Prod.fst)
theorem mmap_split {β γ : Type} {f : β → γ} {lc : List (List UInt8 × β)} {l1 l2 : List (List UInt8 × γ)} {k : List UInt8} {v : γ} (h : mmap f lc = l1 ++ (k, v) :: l2) : ∃ lc1 o lc2, l1 = mmap f lc1 ∧ v = f o ∧ l2 = mmap f lc2 ∧ lc = lc1 ++ (k, o) :: lc2 := by
  unfold mmap at h
  rw [List.map_eq_append_iff] at h
  obtain ⟨lc1, r, rfl, h1, h2⟩ := h
  rw [List.map_eq_cons_iff] at h2
  obtain ⟨x, lc2, rfl, h3, h4⟩ := h2
  obtain ⟨k', o⟩ := x
  simp only [Prod.mk.injEq] at h3
  obtain ⟨rfl, rfl⟩ := h3
  exact ⟨lc1, o, lc2, h1.symm, rfl, h4.symm, rfl⟩
theorem mmap_app {β γ : Type} (f : β → γ) (a b : List (List UInt8 × β)) : mmap f a ++ mmap f b = mmap f (a ++ b) := by unfold mmap; rw [List.map_append]
set_option maxHeartbeats 16000000 in
set_option maxRecDepth 100000 in
theorem bkeys_c {B Tp q : Nat} {T : Tb} {m : Bch} {fb fp : List Nat} (p : List UInt8) {w0 : World} (hi : InL w0 [bchC B (some ⟨Tp, 0, none⟩) m fb, tabC Tp q T fp]) (hn : T.rows.length ≤ 549755813888) (hm : m.length ≤ 549755813888) :
    Cal Tryz.prog 105 [.pointer (some ⟨B, 0, none⟩), str p] w0 (fun v w' => ∃ A cap, v = .slice A (bkeysP T.rows m p).length cap ∧ MutL w0 w' [bchC B (some ⟨Tp, 0, none⟩) m fb, tabC Tp q T fp] [bchC B (some ⟨Tp, 0, none⟩) m fb, tabC Tp q T fp, .own (.slice A (bkeysP T.rows m p).length cap) 9 1 (bkeysP T.rows m p).length (strs (bkeysP T.rows m p))]) := by
  refine Cal.mkL hi (by kernel_rfl) Tryz.func105 rfl rfl fun hS => ?_
  obtain ⟨_, ⟨A0, cap0, mb, rfl⟩, hfb, hS⟩ := St.objOpen hS
  replace hS : St w0 (fps [bchC B (some ⟨Tp, 0, none⟩) m fb, tabC Tp q T fp]) w0 [.box B 153 [.pointer (some ⟨Tp, 0, none⟩), .slice A0 m.length cap0, .map (some mb)], .own (.slice A0 m.length cap0) 9 1 m.length (strs (m.map Prod.fst)), mapC mb (mmap encChg m), tabC Tp q T fp] (ZL w0 [bchC B (some ⟨Tp, 0, none⟩) m fb, tabC Tp q T fp]) := hS
  have hkl : (keysP T.rows p).length ≤ 549755813888 := by
    unfold keysP
    rw [sortL_len]
    refine Nat.le_trans (List.length_filter_le _ _) ?_
    rw [List.length_map]
    exact hn
  have htk := fun (w0 : World) (hi : InL w0 [tabC Tp q T fp]) => tkeys_c p hi (by omega)
  unfold bkeysP
  generalize keysP T.rows p = K at *
  repeat' (first | (show WL _ _ _ _ _ _ _; first | refine WL.pure rfl rfl rfl rfl ?_ | refine WL.nil ?_ | refine WL.load hS rfl rfl (LdOk.box Mm rfl) rfl rfl rfl ?_ | (refine WL.slit (t := 56) hS rfl rfl rfl rfl rfl ?_; intro w ob hS; have hS := hS.boxRow (n := 0) (size := 1) .here rfl (Nat.zero_le _)) | (refine WL.callL (D := [tabC Tp q T fp]) hS Pu rfl rfl (fun hI => htk _ hI) rfl rfl rfl ?_; rintro v w ⟨AK, capK, rfl, hmu⟩ hS; replace hS := hS _ hmu; clear hmu)) | (show WC _ _ _ _ _ _; first | refine WC.seq ?_ | refine WC.region ?_ | refine WC.block ?_ | refine WC.skip ?_ | refine WC.condF rfl (by with_reducible rfl) ?_) | refine seqQ_n ?_)
  replace hS := hS.droplast2 (D := [.own (.slice (some ⟨ob, 0, none⟩) 0 0) 9 1 0 [], .own (.slice AK K.length capK) 9 1 K.length (strs K), .box B 153 [.pointer (some ⟨Tp, 0, none⟩), .slice A0 m.length cap0, .map (some mb)], .own (.slice A0 m.length cap0) 9 1 m.length (strs (m.map Prod.fst)), mapC mb (mmap encChg m), tabC Tp q T fp]) Pu
  clear htk
  refine WC.loop (σ := Nat × List (List UInt8) × Option Addr × Nat) [0, 1, 21, 22] (fun (k, d, A, cap) => [(5, .slice A d.length cap), (23, .int .i64 (k : Int))])
    (fun (k, d, A, cap) w => k ≤ K.length ∧ d = (K.take k).filter (oldB m) ∧ St w0 (fps [bchC B (some ⟨Tp, 0, none⟩) m fb, tabC Tp q T fp]) w [.own (.slice A d.length cap) 9 1 d.length (strs d), .own (.slice AK K.length capK) 9 1 K.length (strs K), .box B 153 [.pointer (some ⟨Tp, 0, none⟩), .slice A0 m.length cap0, .map (some mb)], .own (.slice A0 m.length cap0) 9 1 m.length (strs (m.map Prod.fst)), mapC mb (mmap encChg m), tabC Tp q T fp] (ZL w0 [bchC B (some ⟨Tp, 0, none⟩) m fb, tabC Tp q T fp]))
    (fun (k, _) => K.length - k) (0, [], some ⟨ob, 0, none⟩, 0) ⟨Nat.zero_le _, rfl, hS⟩ ⟨rfl, rfl, trivial⟩ ?_
  clear hS
  rintro ⟨k, d, A, cap⟩ g w ⟨hk, hd, hS⟩
  show WC _ _ _ (lf _ [(5, .slice A d.length cap), (23, .int .i64 (k : Int))] _ _) _ _
  have hdl : d.length ≤ k := by rw [hd]; refine Nat.le_trans (List.length_filter_le _ _) ?_; rw [List.length_take]; omega
  have hcap := (hS.own_len (List.Mem.head _)).2.2
  by_cases hlt : k < K.length
  · have hx : (strs K)[k * 1]? = some (str K[k]) := by rw [Nat.mul_one]; exact strs_at hlt
    have hnx : (K.take (k + 1)).filter (oldB m) = d ++ [K[k]].filter (oldB m) := by rw [List.take_succ_eq_append_getElem hlt, List.filter_append, ← hd]
    generalize K[k] = key at *
    have hlk := look_chg1 m key
    have hob : oldB m key = !((mget m key).getD Chg0).gone := rfl
    generalize (mget m key).getD Chg0 = o at *
    obtain ⟨okey, oval, ogone⟩ := o
    obtain ⟨kg, ko, rfl⟩ := hS.own_addr (A := AK) (n := K.length) Mm (Nat.lt_of_le_of_lt (Nat.zero_le k) hlt)
    clear hd
    rcases ogone with _ | _
    · have hob : oldB m key = true := hob
      rw [List.filter_cons_of_pos hob, List.filter_nil] at hnx
      repeat' (first | (show WL _ _ _ _ _ _ _; first | refine WL.pure rfl rfl rfl rfl ?_ | refine WL.nil ?_ | refine WL.load hS rfl rfl (LdOk.box Mm rfl) rfl rfl rfl ?_ | refine WL.add rfl rfl rfl (by omega) rfl rfl rfl ?_ | (refine WL.load hS rfl rfl (LdOk.ownAt Mm rfl ⟨_, rfl⟩ hx rfl) rfl rfl rfl ?_) | (refine WL.mget hS rfl rfl rfl rfl (.mk' Mm) hlk rfl rfl rfl ?_) | (refine WL.app hS rfl rfl rfl rfl (RdOk.box Mm) rfl rfl (fun A cap => Rp) (by omega) rfl rfl rfl ?_; intro A3 cap3 w hS) | refine WL.index rfl rfl rfl rfl (by first | with_reducible assumption | omega) rfl rfl rfl rfl ?_ | (refine WL.slit hS rfl rfl rfl rfl rfl ?_; intro w b hS)) | (show WC _ _ _ _ _ _; first | refine WC.seq ?_ | refine WC.region ?_ | refine WC.block ?_ | refine WC.skip ?_ | refine WC.condT rfl (decide_eq_true (by first | with_reducible assumption | omega)) ?_ | refine WC.condT rfl (by first | (simp; done) | (simp; omega)) ?_) | refine seqQ_n ?_ | refine blkQ_n ?_)
      exact rndQ_n (k + 1, d ++ [key], A3, cap3) ⟨by omega, hnx.symm, by
        have hS := hS.drop
        rw [List.length_append, ← strs_snoc]
        exact hS⟩ (by show K.length - (k + 1) < K.length - k; omega) ⟨by rw [List.length_append]; rfl, vint (by omega), trivial⟩ ⟨rfl, rfl, rfl, rfl, trivial⟩
    · have hob : ¬ oldB m key = true := by rw [hob]; simp
      rw [List.filter_cons_of_neg hob, List.filter_nil, List.append_nil] at hnx
      repeat' (first | (show WL _ _ _ _ _ _ _; first | refine WL.pure rfl rfl rfl rfl ?_ | refine WL.nil ?_ | refine WL.load hS rfl rfl (LdOk.box Mm rfl) rfl rfl rfl ?_ | refine WL.add rfl rfl rfl (by omega) rfl rfl rfl ?_ | (refine WL.load hS rfl rfl (LdOk.ownAt Mm rfl ⟨_, rfl⟩ hx rfl) rfl rfl rfl ?_) | (refine WL.mget hS rfl rfl rfl rfl (.mk' Mm) hlk rfl rfl rfl ?_) | refine WL.index rfl rfl rfl rfl (by first | with_reducible assumption | omega) rfl rfl rfl rfl ?_) | (show WC _ _ _ _ _ _; first | refine WC.seq ?_ | refine WC.region ?_ | refine WC.block ?_ | refine WC.skip ?_ | refine WC.condT rfl (decide_eq_true (by first | with_reducible assumption | omega)) ?_ | refine WC.condF rfl (by first | (simp; done) | (simp; omega)) ?_) | refine seqQ_n ?_ | refine blkQ_n ?_)
      exact rndQ_n (k + 1, d, A, cap) ⟨by omega, hnx.symm, hS⟩ (by show K.length - (k + 1) < K.length - k; omega) ⟨rfl, vint (by omega), trivial⟩ ⟨rfl, rfl, rfl, rfl, trivial⟩
  · have hke : k = K.length := by omega
    subst hke
    rw [List.take_length] at hd
    rw [← hd]
    repeat' (first | (show WL _ _ _ _ _ _ _; first | refine WL.pure rfl rfl rfl rfl ?_ | refine WL.nil ?_ | refine WL.load hS rfl rfl (LdOk.box Mm rfl) rfl rfl rfl ?_ | (refine WL.mrange hS rfl rfl rfl (fun r => Rp) rfl rfl rfl ?_; intro w r hS)) | (show WC _ _ _ _ _ _; first | refine WC.seq ?_ | refine WC.region ?_ | refine WC.block ?_ | refine WC.exit ?_ | refine WC.condF rfl (decide_eq_false (by first | with_reducible assumption | omega)) ?_) | refine seqQ_n ?_ | refine seqQ_x ?_ | refine blkQ_hit rfl ?_ | refine rndQ_x ?_)
    replace hS := hS.droplast2 (D := [.own (.slice A d.length cap) 9 1 d.length (strs d), rngC mb r (mmap encChg m) (mmap encChg m) none, .box B 153 [.pointer (some ⟨Tp, 0, none⟩), .slice A0 m.length cap0, .map (some mb)], .own (.slice A0 m.length cap0) 9 1 m.length (strs (m.map Prod.fst)), tabC Tp q T fp]) Pu
    refine WC.loop (σ := List (List UInt8) × Bch × Option (List UInt8 × Value) × Option Addr × Nat) [0, 1, 44] (fun (e, left, cur, A, cap) => [(5, .slice A e.length cap)])
      (fun (e, left, cur, A, cap) w => (e ++ (left.filter (newB T.rows p)).map Prod.fst).Perm (d ++ (m.filter (newB T.rows p)).map Prod.fst) ∧ e.length + left.length ≤ d.length + m.length ∧ St w0 (fps [bchC B (some ⟨Tp, 0, none⟩) m fb, tabC Tp q T fp]) w [.own (.slice A e.length cap) 9 1 e.length (strs e), rngC mb r (mmap encChg m) (mmap encChg left) cur, .box B 153 [.pointer (some ⟨Tp, 0, none⟩), .slice A0 m.length cap0, .map (some mb)], .own (.slice A0 m.length cap0) 9 1 m.length (strs (m.map Prod.fst)), tabC Tp q T fp] (ZL w0 [bchC B (some ⟨Tp, 0, none⟩) m fb, tabC Tp q T fp]))
      (fun (e, left, cur, A, cap) => left.length) (d, m, none, A, cap) ⟨.refl _, Nat.le_refl _, hS⟩ ⟨rfl, trivial⟩ ?_
    clear hS
    rintro ⟨e, left, cur, A2, cap2⟩ g2 w ⟨hpm, hel, hS⟩
    show WC _ _ _ (lf _ [(5, .slice A2 e.length cap2)] _ _) _ _
    clear hcap
    have hcap := (hS.own_len (List.Mem.head _)).2.2
    rcases left with _ | ⟨x, left⟩
    · rw [List.filter_nil, List.map_nil, List.append_nil] at hpm
      have hsl := sort_perm hpm
      have hsn : e.length = (sortL (d ++ (m.filter (newB T.rows p)).map Prod.fst)).length := by rw [← hsl, sortL_len]
      simp only [List.length_nil, Nat.add_zero] at hel
      repeat' (first | (show WL _ _ _ _ _ _ _; first | refine WL.pure rfl rfl rfl rfl ?_ | refine WL.nil ?_ | (refine WL.mnext hS rfl rfl (fun l' p => Rp) rfl rfl rfl (fun _ => ?_) (fun l1 k v l2 h => absurd h (by simp [mmap]))) | (refine WL.callL (D := [.own (.slice A2 e.length cap2) 9 1 e.length (strs e)]) hS Pu rfl rfl (fun hI => sort_c hI.head hI.headB (by omega)) rfl rfl rfl ?_; rintro v w ⟨rfl, hm⟩ hS; replace hS := hS _ (.of1 hm); clear hm)) | (show WC _ _ _ _ _ _; first | refine WC.seq ?_ | refine WC.region ?_ | refine WC.exit ?_ | refine WC.ret ?_ | refine WC.condF rfl (by with_reducible rfl) ?_) | refine seqQ_n ?_ | refine seqQ_x ?_ | refine blkQ_hit rfl ?_ | refine rndQ_x ?_)
      have hS := hS.rngEnd (H' := [.own (.slice A2 e.length cap2) 9 1 e.length (strs (sortL e)), mapC mb (mmap encChg m), .box B 153 [.pointer (some ⟨Tp, 0, none⟩), .slice A0 m.length cap0, .map (some mb)], .own (.slice A0 m.length cap0) 9 1 m.length (strs (m.map Prod.fst)), tabC Tp q T fp]) Rp
      have hS := St.objClose (φ := bchφ B (some ⟨Tp, 0, none⟩) m) (hS.pulls (D := [.box B 153 [.pointer (some ⟨Tp, 0, none⟩), .slice A0 m.length cap0, .map (some mb)], .own (.slice A0 m.length cap0) 9 1 m.length (strs (m.map Prod.fst)), mapC mb (mmap encChg m)]) Pu) ⟨A0, cap0, mb, rfl⟩
      rw [← hfb, hsl, hsn] at hS
      exact fin1r rfl rfl ⟨A2, cap2, by rw [hsn], hS.mutLp Pu⟩
    · repeat' (first | (show WL _ _ _ _ _ _ _; first | refine WL.pure rfl rfl rfl rfl ?_ | refine WL.nil ?_ | refine WL.load hS rfl rfl (LdOk.box Mm rfl) rfl rfl rfl ?_ | (refine WL.mnext hS rfl rfl (fun l' p => Rp) rfl rfl rfl (fun h => absurd h (by simp [mmap])) (fun l1 k v l2 hleft w hS => ?_); obtain ⟨lc1, ⟨okey, oval, ogone⟩, lc2, rfl, rfl, rfl, hlc⟩ := mmap_split hleft; rw [mmap_app] at hS; clear hleft; cases hg1 : (mget T.rows k).isSome <;> cases ogone <;> cases hg3 : begB p k) | (refine WL.mentry hS rfl rfl Mm rfl rfl rfl ?_) | (refine WL.alloc (t := 79) hS rfl rfl rfl rfl rfl rfl ?_; intro w xb hS) | (refine WL.callL (D := [tabC Tp q T fp]) hS Pu rfl rfl (fun hI => tget_c k hI) rfl rfl rfl ?_; rintro v w ⟨rfl, hmu⟩ hS; rw [show (getE T.rows k).2 = _ from hg1]; replace hS := hS _ hmu; clear hmu) | (refine WL.calls hS rfl rfl (hasPrefix_c k p _) rfl rfl rfl ?_; rintro v w rfl hS; rw [show decide (k.take p.length = p) = _ from hg3]) | (refine WL.app hS rfl rfl rfl rfl (RdOk.box Mm) rfl rfl (fun A cap => Rp) (by simp at hel; omega) rfl rfl rfl ?_; intro A3 cap3 w hS) | (refine WL.store hS rfl rfl rfl Sb rfl rfl rfl ?_; intro w hS) | refine WL.skip rfl rfl rfl ?_ | (refine WL.slit hS rfl rfl rfl rfl rfl ?_; intro w b hS)) | (show WC _ _ _ _ _ _; first | refine WC.seq ?_ | refine WC.region ?_ | refine WC.block ?_ | refine WC.skip ?_ | refine WC.condT rfl (by with_reducible rfl) ?_ | refine WC.condF rfl (by with_reducible rfl) ?_) | refine seqQ_n ?_ | refine blkQ_n ?_)
      all_goals
        rw [hlc] at hpm hel
        have hpm2 := ((List.Perm.append_left e (((perm_mid lc1 lc2 _).filter (newB T.rows p)).map Prod.fst)).symm).trans hpm
        first
          | (rw [List.filter_cons_of_pos (by simp [newB, hg1, hg3])] at hpm2
             exact rndQ_n (e ++ [k], lc1 ++ lc2, some (k, _), A3, cap3) ⟨by rw [List.append_assoc]; exact hpm2, by simp at hel ⊢; omega, by
               rw [List.length_append, ← strs_snoc]
               exact hS.droplast2 Pu⟩ (by show (lc1 ++ lc2).length < (x :: left).length; rw [hlc]; simp) ⟨by rw [List.length_append]; rfl, trivial⟩ ⟨rfl, rfl, rfl, trivial⟩)
          | (rw [List.filter_cons_of_neg (by simp [newB, hg1, hg3])] at hpm2
             exact rndQ_n (e, lc1 ++ lc2, some (k, _), A2, cap2) ⟨hpm2, by simp at hel ⊢; omega, hS.droplast2 Pu⟩ (by show (lc1 ++ lc2).length < (x :: left).length; rw [hlc]; simp) ⟨rfl, trivial⟩ ⟨rfl, rfl, rfl, trivial⟩)
end Go.Proofs.YtccfiohagbneaaaGreatDoor

/- What is proved: the order of a list of items is the order in which the program looks at its items. Conditions: none. -/
namespace Go.Proofs.YtccfiohagbneaaaGreatDoor
open Go Go.J Go.RowKit
theorem less_iff : ∀ {a b : List UInt8}, Op.bytesLess a b = true ↔ a < b
  | [], [] => by simp [Op.bytesLess]
  | _ :: _, [] => by simp [Op.bytesLess]
  | [], _ :: _ => by simp [Op.bytesLess]
  | x :: a, y :: b => by
    rw [List.cons_lt_cons_iff]
    unfold Op.bytesLess
    simp only [Bool.or_eq_true, decide_eq_true_eq, Bool.and_eq_true, beq_iff_eq]
    rw [less_iff]
theorem less_le {a b : List UInt8} (h : Op.bytesLess a b = true) : a ≤ b := by
  show ¬ b < a
  intro h2
  have h3 := less_iff.2 h2
  rw [less_asym h] at h3
  cases h3
theorem rise_paths {l : List Ri} (h : RiseG Ri.path Op.bytesLess l) : RiseG id Op.bytesLess (l.map Ri.path) := List.pairwise_map.2 h
theorem RepL.keys {l : List Ri} {D : Dk} (h : RepL l D.items) : l.map Ri.path = D.keys := by
  have h1 : (l.map Ri.path).Nodup := h.rise.nodup bytesO
  have h2 : (l.map Ri.path).Perm (D.items.map Prod.fst) := (List.perm_ext_iff_of_nodup h1 h.nd).2 fun p => by
    constructor
    · intro hp
      obtain ⟨x, hx, rfl⟩ := List.mem_map.1 hp
      exact List.mem_map.2 ⟨_, mget_mem (h.mem hx), rfl⟩
    · intro hp
      obtain ⟨⟨q, i⟩, hx, rfl⟩ := List.mem_map.1 hp
      exact List.mem_map.2 ⟨_, h.at_ (mget_it h.nd hx), rfl⟩
  unfold Dk.keys
  rw [← sort_perm' h2, List.mergeSort_of_pairwise]
  exact (rise_paths h.rise).imp fun hh => decide_eq_true (less_le hh)
theorem keys_same {D E : Dk} (h : D.items.map Prod.fst = E.items.map Prod.fst) : D.keys = E.keys := by unfold Dk.keys; rw [h]
theorem set_keys {D : Dk} {p : List UInt8} {x : It} (h : p ∈ D.items.map Prod.fst) : (D.set p x).keys = D.keys := keys_same (by
  show (mset D.items p _).map Prod.fst = _
  rw [mset_keys, if_pos h])
end Go.Proofs.YtccfiohagbneaaaGreatDoor

/- What is proved: a table as a list of rows in the order of their keys: plain facts. Conditions: none. -/
namespace Go.Proofs.YtccfiohagbneaaaGreatDoor
open Go Go.J Go.RowKit
structure Rt where
  key : List UInt8
  val : List UInt8
instance : Inhabited Rt := ⟨⟨[], []⟩⟩
def encRt (x : Rt) : List Value := [str x.key, str x.val]
def cRt : Cod Rt := .flat encRt 2 fun _ => rfl
def rts (l : List Rt) : List Value := l.flatMap encRt
theorem rts_snoc (l : List Rt) (x : Rt) : rts l ++ encRt x = rts (l ++ [x]) := by simp [rts]
theorem rts_snoc' (l : List Rt) (k v : List UInt8) : rts l ++ [str k, str v] = rts (l ++ [⟨k, v⟩]) := rts_snoc l ⟨k, v⟩
theorem rts_at {l : List Rt} {i : Nat} (h : i < l.length) {j : Nat} (hj : j < 2) : (rts l)[i * 2 + j]? = (encRt l[i])[j]? := flat_get (enc := encRt) (sz := 2) (fun _ => rfl) l h hj
structure RepT (l : List Rt) (m : Rws) : Prop where
  nd : (m.map Prod.fst).Nodup
  rise : RiseG Rt.key Op.bytesLess l
  get : ∀ p, (findG Rt.key l p).map Rt.val = mget m p
theorem RepT.nil : RepT [] [] := ⟨List.nodup_nil, List.Pairwise.nil, fun p => rfl⟩
theorem RepT.drop {l : List Rt} {m : Rws} (h : RepT l m) (p : List UInt8) : RepT (dropG Rt.key l p) (mdel m p) :=
  ⟨mdel_nodup h.nd p, dropG_rise h.rise, fun q => by
    rw [findG_drop, mget_del m h.nd, ← h.get]
    split <;> rfl⟩
theorem RepT.put {l : List Rt} {m : Rws} (h : RepT l m) (x : Rt) : RepT (putG Rt.key Op.bytesLess l x) (mset m x.key x.val) :=
  ⟨mset_nodup h.nd _ _, putG_rise bytesO h.rise, fun q => by
    rw [findG_put bytesO, mget_set, ← h.get]
    split <;> rfl⟩
def rtF (o : Chg) (s : Bool × List Rt) (r : Rt) : Bool × List Rt := if r.key = o.key then s else if s.1 = false ∧ Op.bytesLess o.key r.key = true then (true, s.2 ++ [⟨o.key, o.val⟩, r]) else (s.1, s.2 ++ [r])
def rtR (o : Chg) (l : List Rt) : List Rt := let s := l.foldl (rtF o) (o.gone, []); if s.1 then s.2 else s.2 ++ [⟨o.key, o.val⟩]
theorem rtF_done (o : Chg) : ∀ (l : List Rt) (out : List Rt), l.foldl (rtF o) (true, out) = (true, out ++ dropG Rt.key l o.key)
  | [], out => by simp [dropG]
  | r :: l, out => by
    rw [List.foldl_cons]
    unfold rtF
    by_cases h : r.key = o.key
    · rw [if_pos h]
      have := rtF_done o l out
      unfold rtF at this
      rw [this]
      simp [dropG, h]
    · rw [if_neg h, if_neg (by simp)]
      have := rtF_done o l (out ++ [r])
      unfold rtF at this
      rw [this]
      simp [dropG, h]
theorem rtF_put (o : Chg) : ∀ (l : List Rt) (out : List Rt), RiseG Rt.key Op.bytesLess l → (let s := l.foldl (rtF o) (false, out); if s.1 then s.2 else s.2 ++ [⟨o.key, o.val⟩]) = out ++ putG Rt.key Op.bytesLess l ⟨o.key, o.val⟩
  | [], out, _ => by simp [putG]
  | r :: l, out, hr => by
    have hr1 := List.pairwise_cons.1 hr
    rw [List.foldl_cons, putG_cons]
    by_cases h : r.key = o.key
    · have e : rtF o (false, out) r = (false, out) := by unfold rtF; rw [if_pos h]
      rw [e, rtF_put o l out hr1.2]
      have h0 : ∀ z ∈ l, Op.bytesLess o.key z.key = true := fun z hz => by rw [← h]; exact hr1.1 z hz
      have h1 : putG Rt.key Op.bytesLess l ⟨o.key, o.val⟩ = ⟨o.key, o.val⟩ :: l := by
        cases l with
        | nil => rfl
        | cons y l =>
          rw [putG_cons, if_neg]
          · rw [filter_gt bytesO (x := (⟨o.key, o.val⟩ : Rt)) (l := y :: l) h0]
          · show ¬ Op.bytesLess y.key o.key = true
            rw [less_asym (h0 y (List.mem_cons_self ..))]; decide
      rw [h1, if_neg (by show ¬ Op.bytesLess r.key o.key = true; rw [h, less_irr]; decide), List.filter_cons, if_neg (by simp [h])]
      rw [filter_gt bytesO (x := (⟨o.key, o.val⟩ : Rt)) (l := l) h0]
    · by_cases hl : Op.bytesLess o.key r.key = true
      · have e : rtF o (false, out) r = (true, out ++ [⟨o.key, o.val⟩, r]) := by unfold rtF; rw [if_neg h, if_pos ⟨rfl, hl⟩]
        rw [e, rtF_done]
        dsimp only
        rw [if_pos rfl, if_neg (by show ¬ Op.bytesLess r.key o.key = true; rw [less_asym hl]; decide), List.filter_cons, if_pos (by simp [h])]
        simp [dropG]
      · have e : rtF o (false, out) r = (false, out ++ [r]) := by unfold rtF; rw [if_neg h, if_neg (fun hh => hl hh.2)]
        have h2 : Op.bytesLess r.key o.key = true := by
          rcases less_tri r.key o.key with h3 | h3 | h3
          · exact h3
          · exact absurd h3 h
          · exact absurd h3 hl
        rw [e, rtF_put o l (out ++ [r]) hr1.2, if_pos h2]
        simp
theorem rtR_eq (o : Chg) {l : List Rt} (hr : RiseG Rt.key Op.bytesLess l) : rtR o l = if o.gone then dropG Rt.key l o.key else putG Rt.key Op.bytesLess l ⟨o.key, o.val⟩ := by
  obtain ⟨key, val, gone⟩ := o
  unfold rtR
  cases gone with
  | true =>
    rw [rtF_done]
    simp
  | false =>
    have := rtF_put ⟨key, val, false⟩ l [] hr
    rw [List.nil_append] at this
    exact this
theorem RepT.set {l : List Rt} {m : Rws} (h : RepT l m) (o : Chg) : RepT (rtR o l) (if o.gone then mdel m o.key else mset m o.key o.val) := by
  rw [rtR_eq o h.rise]
  cases o.gone with
  | true => exact h.drop o.key
  | false => exact h.put ⟨o.key, o.val⟩
theorem RepT.all {m : Rws} {l : List Rt} (h : RepT l m) (ops : List Chg) : RepT (ops.foldl (fun l o => rtR o l) l) (applyE m ops) := by
  induction ops generalizing l m with
  | nil => exact h
  | cons o ops ih => exact ih (h.set o)
theorem RepT.keys_perm {l : List Rt} {m : Rws} (h : RepT l m) : (l.map Rt.key).Perm (m.map Prod.fst) := by
  have h1 : (l.map Rt.key).Nodup := h.rise.nodup bytesO
  refine (List.perm_ext_iff_of_nodup h1 h.nd).2 fun p => ?_
  have e1 : p ∈ l.map Rt.key ↔ (findG Rt.key l p).isSome = true := by
    constructor
    · intro hp
      obtain ⟨x, hx, rfl⟩ := List.mem_map.1 hp
      rw [findG_mem bytesO h.rise hx]; rfl
    · intro hp
      obtain ⟨x, hx⟩ := Option.isSome_iff_exists.1 hp
      obtain ⟨h3, h4⟩ := findG_some hx
      exact List.mem_map.2 ⟨x, h3, h4⟩
  have e2 : p ∈ m.map Prod.fst ↔ (mget m p).isSome = true := by
    rw [← Option.ne_none_iff_isSome, Ne, mget_none, Classical.not_not]
  rw [e1, e2, ← h.get]
  cases findG Rt.key l p <;> simp
theorem RepT.len {l : List Rt} {m : Rws} (h : RepT l m) : l.length = m.length := by
  have := h.keys_perm.length_eq
  simpa using this
theorem RepT.keysP {l : List Rt} {m : Rws} (h : RepT l m) (p : List UInt8) : (l.map Rt.key).filter (begB p) = keysP m p := by
  unfold Go.Proofs.YtccfiohagbneaaaGreatDoor.keysP sortL
  rw [← sort_perm' (h.keys_perm.filter (begB p)), List.mergeSort_of_pairwise]
  have h1 : RiseG id Op.bytesLess (l.map Rt.key) := List.pairwise_map.2 h.rise
  exact (List.Pairwise.sublist List.filter_sublist h1).imp fun hh => decide_eq_true (less_le hh)
theorem RepT.packL {l : List Rt} {m : Rws} (h : RepT l m) : l.map (fun r => (⟨r.key, r.val, false⟩ : Chg)) = packL m := by
  have hk : l.map Rt.key = keysE m := by
    unfold keysE
    rw [← sort_perm' h.keys_perm, List.mergeSort_of_pairwise]
    have h1 : RiseG id Op.bytesLess (l.map Rt.key) := List.pairwise_map.2 h.rise
    exact h1.imp fun hh => decide_eq_true (less_le hh)
  unfold Go.Proofs.YtccfiohagbneaaaGreatDoor.packL
  rw [← hk, List.map_map]
  refine List.map_congr_left fun r hr => ?_
  have := h.get r.key
  rw [findG_mem bytesO h.rise hr] at this
  show _ = (⟨r.key, (mget m r.key).getD [], false⟩ : Chg)
  rw [← this]
  rfl
theorem RepT.getE {l : List Rt} {m : Rws} (h : RepT l m) (k : List UInt8) : getE m k = (((findG Rt.key l k).map Rt.val).getD [], (findG Rt.key l k).isSome) := by
  unfold Go.Proofs.YtccfiohagbneaaaGreatDoor.getE
  rw [← h.get]
  cases findG Rt.key l k <;> rfl
end Go.Proofs.YtccfiohagbneaaaGreatDoor

/- What is proved: what the reference's table does with rows: Set, Get, Keys, all, Batch. Conditions: rows of bounded number. -/
namespace Go.Proofs.YtccfiohagbneaaaGreatDoor
open Go Go.J Go.RowKit
theorem rtF_len (o : Chg) : ∀ (l : List Rt) (s : Bool × List Rt), (l.foldl (rtF o) s).2.length ≤ s.2.length + 2 * l.length
  | [], s => by simp
  | r :: l, s => by
    rw [List.foldl_cons]
    have := rtF_len o l (rtF o s r)
    have h2 : (rtF o s r).2.length ≤ s.2.length + 2 := by
      unfold rtF
      repeat' split
      all_goals simp
    rw [List.length_cons]
    omega
theorem rtF_snoc (o : Chg) {l : List Rt} {i : Nat} (h : i < l.length) (s : Bool × List Rt) : (l.take (i + 1)).foldl (rtF o) s = rtF o ((l.take i).foldl (rtF o) s) l[i] := by
  rw [List.take_succ_eq_append_getElem h, List.foldl_append]; rfl
theorem begB_short {p k : List UInt8} (h : ¬ p.length ≤ k.length) : begB p k = false := by
  unfold begB
  refine decide_eq_false fun e => ?_
  have := congrArg List.length e
  rw [List.length_take] at this
  omega
set_option maxHeartbeats 8000000 in
set_option maxRecDepth 100000 in
theorem rtget_c (l : List Rt) (k : List UInt8) {A : Option Addr} {cap : Nat} {w0 : World} (h : SlAt cRt (Old w0) w0 A l) (hl : l.length ≤ 1099511627776) :
    Cal Tryz.prog 101 [.slice A l.length cap, str k] w0 (fun v w' => Upd [] w0 w' ∧ v = .tuple #[str (((findG Rt.key l k).map Rt.val).getD []), .bool (findG Rt.key l k).isSome]) := by
  refine Cal.mk' (by kernel_rfl) Tryz.func101 rfl rfl fun hS => ?_
  repeat' (first | (show WL _ _ _ _ _ _ _; first | refine WL.pure rfl rfl rfl rfl ?_ | refine WL.nil ?_) | (show WC _ _ _ _ _ _; first | refine WC.seq ?_ | refine WC.region ?_ | refine WC.block ?_) | refine seqQ_n ?_)
  refine WC.loop (σ := Nat) [0, 1] (fun i => [(6, .int .i64 (i : Int))]) (fun i w => (i ≤ l.length ∧ findG Rt.key (l.drop i) k = findG Rt.key l k) ∧ St w0 [] w [] [⟨w0, Old w0⟩]) (fun i => l.length - i) 0 ⟨⟨Nat.zero_le _, rfl⟩, hS⟩ ⟨rfl, trivial⟩ ?_
  clear hS
  rintro i g w ⟨⟨hi, hf⟩, hS⟩
  show WC _ _ _ (lf _ [(6, .int .i64 (i : Int))] _ _) _ _
  by_cases hlt : i < l.length
  · obtain ⟨rb, ro, es, rfl, hF, hr, hes⟩ := h.at_ hlt
    have hes : es = encRt l[i] := hes
    subst hes
    have hr : w0.rangeAt rb (ro + i * 2) (encRt l[i]) := hr
    rw [List.drop_eq_getElem_cons hlt, findG_cons] at hf
    generalize l[i] = r at *
    obtain ⟨key, val⟩ := r
    unfold encRt at hr
    dsimp only at hr hf
    by_cases hk : key = k
    · rw [if_pos hk] at hf
      repeat' (first | (show WL _ _ _ _ _ _ _; first | refine WL.pure rfl rfl rfl rfl ?_ | refine WL.nil ?_ | (refine WL.load hS rfl rfl (LdOk.snap0 hF hr Mm rfl) rfl rfl rfl ?_) | (refine WL.load hS rfl rfl (LdOk.snap hF hr Mm rfl) rfl rfl rfl ?_) | refine WL.index rfl rfl rfl rfl (by first | with_reducible assumption | omega) rfl rfl rfl rfl ?_) | (show WC _ _ _ _ _ _; first | refine WC.seq ?_ | refine WC.region ?_ | refine WC.block ?_ | refine WC.skip ?_ | refine WC.ret ?_ | refine WC.condT rfl (decide_eq_true (by first | with_reducible assumption | omega)) ?_) | refine seqQ_n ?_ | refine seqQ_r ?_ | refine blkQ_r ?_ | refine rndQ_r ?_)
      rw [← hf]
      exact fin2r rfl rfl rfl ⟨hS.upd, rfl⟩
    · rw [if_neg hk] at hf
      repeat' (first | (show WL _ _ _ _ _ _ _; first | refine WL.pure rfl rfl rfl rfl ?_ | refine WL.nil ?_ | refine WL.add rfl rfl rfl (by omega) rfl rfl rfl ?_ | (refine WL.load hS rfl rfl (LdOk.snap0 hF hr Mm rfl) rfl rfl rfl ?_) | refine WL.index rfl rfl rfl rfl (by first | with_reducible assumption | omega) rfl rfl rfl rfl ?_) | (show WC _ _ _ _ _ _; first | refine WC.seq ?_ | refine WC.region ?_ | refine WC.block ?_ | refine WC.skip ?_ | refine WC.condT rfl (decide_eq_true (by first | with_reducible assumption | omega)) ?_ | refine WC.condF rfl (decide_eq_false (by first | with_reducible assumption | omega)) ?_) | refine seqQ_n ?_ | refine blkQ_n ?_)
      exact rndQ_n (i + 1) ⟨⟨by omega, hf⟩, hS⟩ (by show l.length - (i + 1) < l.length - i; omega) ⟨vint (by omega), trivial⟩ ⟨rfl, rfl, trivial⟩
  · have hke : i = l.length := by omega
    subst hke
    rw [List.drop_length] at hf
    repeat' (first | (show WL _ _ _ _ _ _ _; first | refine WL.pure rfl rfl rfl rfl ?_ | refine WL.nil ?_) | (show WC _ _ _ _ _ _; first | refine WC.seq ?_ | refine WC.region ?_ | refine WC.exit ?_ | refine WC.ret ?_ | refine WC.condF rfl (decide_eq_false (by first | with_reducible assumption | omega)) ?_) | refine seqQ_n ?_ | refine seqQ_x ?_ | refine blkQ_hit rfl ?_ | refine rndQ_x ?_)
    rw [← hf]
    exact fin2r rfl rfl rfl ⟨hS.upd, rfl⟩
set_option maxHeartbeats 8000000 in
set_option maxRecDepth 100000 in
theorem rtkeys_c (l : List Rt) (p : List UInt8) {A : Option Addr} {cap : Nat} {w0 : World} (h : SlAt cRt (Old w0) w0 A l) (hl : l.length ≤ 1099511627776) :
    Cal Tryz.prog 106 [.slice A l.length cap, str p] w0 (fun v w' => Upd [] w0 w' ∧ ∃ B c, v = .slice B ((l.map Rt.key).filter (begB p)).length c ∧ New w0 w' (.own (.slice B ((l.map Rt.key).filter (begB p)).length c) 9 1 ((l.map Rt.key).filter (begB p)).length (strs ((l.map Rt.key).filter (begB p))))) := by
  refine Cal.mk' (by kernel_rfl) Tryz.func106 rfl rfl fun hS => ?_
  have hS := hS.nilRow 9 1
  repeat' (first | (show WL _ _ _ _ _ _ _; first | refine WL.pure rfl rfl rfl rfl ?_ | refine WL.nil ?_) | (show WC _ _ _ _ _ _; first | refine WC.seq ?_ | refine WC.region ?_ | refine WC.block ?_) | refine seqQ_n ?_)
  refine WC.loop (σ := Nat × List (List UInt8) × Option Addr × Nat) [0, 1] (fun (i, out, B, c) => [(5, .slice B out.length c), (6, .int .i64 (i : Int))]) (fun (i, out, B, c) w => (i ≤ l.length ∧ out = ((l.take i).map Rt.key).filter (begB p)) ∧ St w0 [] w [.own (.slice B out.length c) 9 1 out.length (strs out)] [⟨w0, Old w0⟩]) (fun (i, _) => l.length - i) (0, [], none, 0) ⟨⟨Nat.zero_le _, rfl⟩, hS⟩ ⟨rfl, rfl, trivial⟩ ?_
  clear hS
  rintro ⟨i, out, B, c⟩ g w ⟨⟨hi, ho⟩, hS⟩
  show WC _ _ _ (lf _ [(5, .slice B out.length c), (6, .int .i64 (i : Int))] _ _) _ _
  by_cases hlt : i < l.length
  · obtain ⟨rb, ro, es, rfl, hF, hr, hes⟩ := h.at_ hlt
    have hes : es = encRt l[i] := hes
    subst hes
    have hr : w0.rangeAt rb (ro + i * 2) (encRt l[i]) := hr
    have hnx : ((l.take (i + 1)).map Rt.key).filter (begB p) = out ++ (if begB p l[i].key = true then [l[i].key] else []) := by
      rw [List.take_succ_eq_append_getElem hlt, List.map_append, List.filter_append, ← ho]
      congr 1
      by_cases hb : begB p l[i].key = true
      · rw [if_pos hb]; simp [hb]
      · rw [if_neg hb]; simp [hb]
    have hon : out.length ≤ i := by
      rw [ho]
      refine Nat.le_trans (List.length_filter_le _ _) ?_
      rw [List.length_map, List.length_take]; omega
    clear ho
    generalize l[i] = r at *
    obtain ⟨key, val⟩ := r
    unfold encRt at hr
    dsimp only at hr hnx
    by_cases hb : begB p key = true
    · rw [if_pos hb] at hnx
      have hle : p.length ≤ key.length := Classical.byContradiction fun hh => by rw [begB_short hh] at hb; cases hb
      have htk : key.take p.length = p := of_decide_eq_true hb
      clear hb
      have hlen : out.length + 1 = (out ++ [key]).length := by simp
      repeat' (first | (show WL _ _ _ _ _ _ _; first | refine WL.pure rfl rfl rfl rfl ?_ | refine WL.nil ?_ | refine WL.add rfl rfl rfl (by omega) rfl rfl rfl ?_ | (refine WL.load hS rfl rfl (LdOk.snap0 hF hr Mm rfl) rfl rfl rfl ?_) | (refine WL.highS (j := p.length) rfl rfl rfl rfl hle rfl rfl rfl ?_; rw [htk]) | (refine WL.app (m := 1) hS rfl rfl rfl rfl (RdOk.box Mm) rfl rfl (fun A cap => Rp) (by omega) rfl rfl rfl ?_; intro A3 cap3 w hS) | refine WL.index rfl rfl rfl rfl (by first | with_reducible assumption | omega) rfl rfl rfl rfl ?_ | (refine WL.slit hS rfl rfl rfl rfl rfl ?_; intro w b hS) | ((fail_if_success (refine WL.wanted rfl ?_)); refine WL.guard rfl rfl rfl (fun h => ?_) (fun h => ?_) <;> (try simp only [ZZ0, ZZ1, ZZ2, ZZ3, ZZ4, ZZ5, ZZ6, ZZ7, ZZ8, ZZ9, ZZ10, ZZ11, ZZ12, ZZ13, ZZ14, ZZ15] at h) <;> (try (exfalso; first | omega | contradiction)))) | (show WC _ _ _ _ _ _; first | refine WC.seq ?_ | refine WC.region ?_ | refine WC.block ?_ | refine WC.skip ?_ | refine WC.condT rfl (decide_eq_true (by first | with_reducible assumption | omega)) ?_ | refine WC.condT rfl (by first | (simp; done) | (simp; omega)) ?_) | refine seqQ_n ?_ | refine blkQ_n ?_)
      replace hS : St w0 _ w (_ :: .own (.slice A3 (out.length + 1) cap3) 9 1 (out.length + 1) (strs out ++ [str key]) :: _) _ := hS
      rw [strs_snoc, hlen] at hS
      exact rndQ_n (i + 1, out ++ [key], A3, cap3) ⟨⟨by omega, hnx.symm⟩, hS.droplast2 Pu⟩ (by show l.length - (i + 1) < l.length - i; omega) ⟨(by rw [← hlen]; rfl), vint (by omega), trivial⟩ ⟨rfl, rfl, trivial⟩
    · rw [if_neg hb, List.append_nil] at hnx
      by_cases hle : p.length ≤ key.length
      · have htk : ¬ key.take p.length = p := fun e => hb (decide_eq_true e)
        clear hb
        repeat' (first | (show WL _ _ _ _ _ _ _; first | refine WL.pure rfl rfl rfl rfl ?_ | refine WL.nil ?_ | refine WL.add rfl rfl rfl (by omega) rfl rfl rfl ?_ | (refine WL.load hS rfl rfl (LdOk.snap0 hF hr Mm rfl) rfl rfl rfl ?_) | (refine WL.highS (j := p.length) rfl rfl rfl rfl hle rfl rfl rfl ?_) | refine WL.index rfl rfl rfl rfl (by first | with_reducible assumption | omega) rfl rfl rfl rfl ?_ | ((fail_if_success (refine WL.wanted rfl ?_)); refine WL.guard rfl rfl rfl (fun h => ?_) (fun h => ?_) <;> (try simp only [ZZ0, ZZ1, ZZ2, ZZ3, ZZ4, ZZ5, ZZ6, ZZ7, ZZ8, ZZ9, ZZ10, ZZ11, ZZ12, ZZ13, ZZ14, ZZ15] at h) <;> (try (exfalso; first | omega | contradiction)))) | (show WC _ _ _ _ _ _; first | refine WC.seq ?_ | refine WC.region ?_ | refine WC.block ?_ | refine WC.skip ?_ | refine WC.condT rfl (decide_eq_true (by first | with_reducible assumption | omega)) ?_ | refine WC.condF rfl (decide_eq_false (by first | with_reducible assumption | omega)) ?_) | refine seqQ_n ?_ | refine blkQ_n ?_)
        exact rndQ_n (i + 1, out, B, c) ⟨⟨by omega, hnx.symm⟩, hS⟩ (by show l.length - (i + 1) < l.length - i; omega) ⟨rfl, vint (by omega), trivial⟩ ⟨rfl, rfl, trivial⟩
      · clear hb
        repeat' (first | (show WL _ _ _ _ _ _ _; first | refine WL.pure rfl rfl rfl rfl ?_ | refine WL.nil ?_ | refine WL.add rfl rfl rfl (by omega) rfl rfl rfl ?_ | (refine WL.load hS rfl rfl (LdOk.snap0 hF hr Mm rfl) rfl rfl rfl ?_) | refine WL.index rfl rfl rfl rfl (by first | with_reducible assumption | omega) rfl rfl rfl rfl ?_ | refine WL.skip rfl rfl rfl ?_ | ((fail_if_success (refine WL.wanted rfl ?_)); refine WL.guard rfl rfl rfl (fun h => ?_) (fun h => ?_) <;> (try simp only [ZZ0, ZZ1, ZZ2, ZZ3, ZZ4, ZZ5, ZZ6, ZZ7, ZZ8, ZZ9, ZZ10, ZZ11, ZZ12, ZZ13, ZZ14, ZZ15] at h) <;> (try (exfalso; first | omega | contradiction)))) | (show WC _ _ _ _ _ _; first | refine WC.seq ?_ | refine WC.region ?_ | refine WC.block ?_ | refine WC.skip ?_ | refine WC.condF rfl (by with_reducible rfl) ?_ | refine WC.condT rfl (decide_eq_true (by first | with_reducible assumption | omega)) ?_) | refine seqQ_n ?_ | refine blkQ_n ?_)
        exact rndQ_n (i + 1, out, B, c) ⟨⟨by omega, hnx.symm⟩, hS⟩ (by show l.length - (i + 1) < l.length - i; omega) ⟨rfl, vint (by omega), trivial⟩ ⟨rfl, rfl, trivial⟩
  · have hke : i = l.length := by omega
    subst hke
    rw [List.take_length] at ho
    subst ho
    repeat' (first | (show WL _ _ _ _ _ _ _; first | refine WL.pure rfl rfl rfl rfl ?_ | refine WL.nil ?_) | (show WC _ _ _ _ _ _; first | refine WC.seq ?_ | refine WC.region ?_ | refine WC.exit ?_ | refine WC.ret ?_ | refine WC.condF rfl (decide_eq_false (by first | with_reducible assumption | omega)) ?_) | refine seqQ_n ?_ | refine seqQ_x ?_ | refine blkQ_hit rfl ?_ | refine rndQ_x ?_)
    exact fin1r rfl rfl ⟨hS.upd, _, _, rfl, hS.newOf Mm⟩
set_option maxHeartbeats 32000000 in
set_option maxRecDepth 100000 in
theorem rtset_c (l : List Rt) (o : Chg) {A : Option Addr} {cap : Nat} {w0 : World} (h : SlAt cRt (Old w0) w0 A l) (hl : l.length ≤ 268435456) :
    Cal Tryz.prog 153 [.slice A l.length cap, .agg ⟨cellsChg o⟩] w0 (fun v w' => Upd [] w0 w' ∧ ∃ B c, v = .slice B (rtR o l).length c ∧ New w0 w' (.own (.slice B (rtR o l).length c) 159 2 (rtR o l).length (rts (rtR o l)))) := by
  refine Cal.mk' (by kernel_rfl) Tryz.func153 rfl rfl fun hS => ?_
  have hR : rtR o l = if (l.foldl (rtF o) (o.gone, [])).1 then (l.foldl (rtF o) (o.gone, [])).2 else (l.foldl (rtF o) (o.gone, [])).2 ++ [⟨o.key, o.val⟩] := rfl
  have hL := fun i => rtF_len o (l.take i) (o.gone, [])
  have hsn := fun i (h : i < l.length) => rtF_snoc o h (o.gone, [])
  obtain ⟨key, val, gone⟩ := o
  have hfd : ∀ s r, rtF ⟨key, val, gone⟩ s r = if r.key = key then s else if s.1 = false ∧ Op.bytesLess key r.key = true then (true, s.2 ++ [⟨key, val⟩, r]) else (s.1, s.2 ++ [r]) := fun _ _ => rfl
  unfold cellsChg
  dsimp only at hR hL hsn ⊢
  rw [hR]
  generalize rtF ⟨key, val, gone⟩ = F at *
  clear hR
  have hS := hS.nilRow 159 2
  repeat' (first | (show WL _ _ _ _ _ _ _; first | refine WL.pure rfl rfl rfl rfl ?_ | refine WL.nil ?_ | refine WL.load hS rfl rfl (LdOk.box Mm rfl) rfl rfl rfl ?_ | (refine WL.box hS rfl rfl rfl rfl rfl ?_; intro w b hS)) | (show WC _ _ _ _ _ _; first | refine WC.seq ?_ | refine WC.region ?_ | refine WC.block ?_) | refine seqQ_n ?_)
  refine WC.loop (σ := Nat × Bool × List Rt × Option Addr × Nat) [0, 3] (fun (i, d, out, B, c) => [(5, .slice B out.length c), (6, .bool d), (7, .int .i64 (i : Int))])
    (fun (i, d, out, B, c) w => (i ≤ l.length ∧ (d, out) = (l.take i).foldl F (gone, [])) ∧ St w0 [] w [.box b 79 [str key, str val, .bool gone], .own (.slice B out.length c) 159 2 out.length (rts out)] [⟨w0, Old w0⟩]) (fun (i, _) => l.length - i) (0, gone, [], none, 0) ⟨⟨Nat.zero_le _, rfl⟩, hS.droplast2 Pu⟩ ⟨rfl, rfl, rfl, trivial⟩ ?_
  clear hS
  rintro ⟨i, d, out, B, c⟩ g w ⟨⟨hi, ho⟩, hS⟩
  show WC _ _ _ (lf _ [(5, .slice B out.length c), (6, .bool d), (7, .int .i64 (i : Int))] _ _) _ _
  obtain ⟨xb, hxb⟩ : ∃ xb, xb = b := ⟨_, rfl⟩
  subst hxb
  have hol : out.length ≤ 536870912 := by
    have := hL i
    rw [← ho, List.length_take] at this
    have : out.length ≤ 0 + 2 * min i l.length := this
    omega
  by_cases hlt : i < l.length
  · obtain ⟨rb, ro, es, rfl, hF, hr, hes⟩ := h.at_ hlt
    have hes : es = encRt l[i] := hes
    subst hes
    have hr : w0.rangeAt rb (ro + i * 2) (encRt l[i]) := hr
    have hnx := hsn i hlt
    rw [← ho, hfd] at hnx
    clear hL hsn hfd
    generalize l[i] = r at *
    obtain ⟨k, v⟩ := r
    unfold encRt at hr
    dsimp only at hr hnx
    by_cases hk : k = key
    · rw [if_pos hk] at hnx
      repeat' (first | (show WL _ _ _ _ _ _ _; first | refine WL.pure rfl rfl rfl rfl ?_ | refine WL.nil ?_ | refine WL.add rfl rfl rfl (by omega) rfl rfl rfl ?_) | (show WC _ _ _ _ _ _; first | refine WC.seq ?_ | refine WC.region ?_ | refine WC.block ?_ | refine WC.skip ?_ | refine WC.exit ?_ | (show WC _ _ (Code.region _ (List.toArray [_, _, _, _, _, _, _, _]) true) _ _ _; refine WC.drawS hS [0, 1, 2, 3, 4, 5, 6, 7] [0, 1, 2, 3, 4, 5, 6, 7] (by kernel_rfl) (by kernel_rfl) ?_; clear hS; intro w hS hM) | refine WC.condT rfl (decide_eq_true (by first | with_reducible assumption | omega)) ?_) | (show WD _ _ _ _ _ _ _ _ _; first | refine WD.pure rfl rfl rfl rfl rfl ?_ | refine WD.nil ?_ | refine WD.load rfl rfl (LdOk.box Mm rfl) rfl rfl rfl rfl ?_ | (refine WD.load rfl rfl (LdOk.snap0 hF hr Mm rfl) rfl rfl rfl rfl ?_) | refine WD.index rfl rfl rfl rfl (by first | with_reducible assumption | omega) rfl rfl rfl rfl rfl ?_) | refine seqQ_n ?_ | refine seqQ_x ?_ | refine blkQ_hit rfl ?_)
      exact rndQ_n (i + 1, d, out, B, c) ⟨⟨by omega, hnx.symm⟩, hS⟩ (by show l.length - (i + 1) < l.length - i; omega) ⟨rfl, rfl, vint (by omega), trivial⟩ ⟨rfl, rfl, trivial⟩
    · rw [if_neg hk] at hnx
      cases d with
      | true =>
        rw [if_neg (by simp)] at hnx
        have hlen : out.length + 1 = (out ++ [(⟨k, v⟩ : Rt)]).length := by simp
        repeat' (first | (show WL _ _ _ _ _ _ _; first | refine WL.pure rfl rfl rfl rfl ?_ | refine WL.nil ?_ | refine WL.add rfl rfl rfl (by omega) rfl rfl rfl ?_ | (refine WL.load hS rfl rfl (LdOk.snap0 hF hr Mm rfl) rfl rfl rfl ?_) | (refine WL.app (m := 1) hS rfl rfl rfl rfl (RdOk.box Mm) rfl rfl (fun A cap => Rp) (by omega) rfl rfl rfl ?_; intro A3 cap3 w hS) | refine WL.index rfl rfl rfl rfl (by first | with_reducible assumption | omega) rfl rfl rfl rfl ?_ | (refine WL.slit hS rfl rfl rfl rfl rfl ?_; intro w b hS)) | (show WC _ _ _ _ _ _; first | refine WC.seq ?_ | refine WC.region ?_ | refine WC.block ?_ | refine WC.skip ?_ | (show WC _ _ (Code.region _ (List.toArray [_, _, _, _, _, _, _, _]) true) _ _ _; refine WC.drawS hS [0, 1, 2, 3, 4, 5, 6, 7] [0, 1, 2, 3, 4, 5, 6, 7] (by kernel_rfl) (by kernel_rfl) ?_; clear hS; intro w hS hM) | (show WC _ _ (Code.region _ (List.toArray [_, _, _, _, _, _, _, _, _, _, _, _]) true) _ _ _; refine WC.drawS hS [0, 1, 2, 3, 4, 5, 6, 7, 8, 9, 10, 11] [0, 1, 2, 3, 4, 5, 6, 7, 8, 9, 10, 11] (by kernel_rfl) (by kernel_rfl) ?_; clear hS; intro w hS hM) | refine WC.condF rfl (by with_reducible rfl) ?_ | refine WC.condT rfl (decide_eq_true (by first | with_reducible assumption | omega)) ?_ | refine WC.condF rfl (decide_eq_false (by first | with_reducible assumption | omega)) ?_) | (show WD _ _ _ _ _ _ _ _ _; first | refine WD.pure rfl rfl rfl rfl rfl ?_ | refine WD.nil ?_ | refine WD.load rfl rfl (LdOk.box Mm rfl) rfl rfl rfl rfl ?_ | (refine WD.load rfl rfl (LdOk.snap0 hF hr Mm rfl) rfl rfl rfl rfl ?_) | refine WD.index rfl rfl rfl rfl (by first | with_reducible assumption | omega) rfl rfl rfl rfl rfl ?_ | refine WD.pass rfl rfl rfl rfl ?_) | refine seqQ_n ?_ | refine blkQ_n ?_)
        replace hS : St w0 _ w (_ :: _ :: .own (.slice A3 (out.length + 1) cap3) 159 2 (out.length + 1) (rts out ++ [str k, str v]) :: _) _ := hS
        rw [rts_snoc', hlen] at hS
        exact rndQ_n (i + 1, true, out ++ [⟨k, v⟩], A3, cap3) ⟨⟨by omega, hnx.symm⟩, hS.droplast2 Pu⟩ (by show l.length - (i + 1) < l.length - i; omega) ⟨(by rw [← hlen]; rfl), rfl, vint (by omega), trivial⟩ ⟨rfl, rfl, trivial⟩
      | false =>
        by_cases hc : Op.bytesLess key k = true
        · rw [if_pos ⟨rfl, hc⟩] at hnx
          have hlen : out.length + 1 = (out ++ [(⟨key, val⟩ : Rt)]).length := by simp
          have hlen2 : out.length + 1 + 1 = (out ++ [(⟨key, val⟩ : Rt), ⟨k, v⟩]).length := by simp
          repeat' (first | (show WL _ _ _ _ _ _ _; first | refine WL.pure rfl rfl rfl rfl ?_ | refine WL.nil ?_ | refine WL.load hS rfl rfl (LdOk.box Mm rfl) rfl rfl rfl ?_ | refine WL.add rfl rfl rfl (by omega) rfl rfl rfl ?_ | (refine WL.load hS rfl rfl (LdOk.snap0 hF hr Mm rfl) rfl rfl rfl ?_) | (refine WL.app (m := 1) hS rfl rfl rfl rfl (RdOk.box Mm) rfl rfl (fun A cap => Rp) (by omega) rfl rfl rfl ?_; intro A3 cap3 w hS) | refine WL.index rfl rfl rfl rfl (by first | with_reducible assumption | omega) rfl rfl rfl rfl ?_ | refine WL.build rfl rfl rfl rfl rfl ?_ | (refine WL.slit hS rfl rfl rfl rfl rfl ?_; intro w b hS)) | (show WC _ _ _ _ _ _; first | refine WC.condT rfl hc ?_ | refine WC.seq ?_ | refine WC.region ?_ | refine WC.block ?_ | refine WC.skip ?_ | (show WC _ _ (Code.region _ (List.toArray [_, _, _, _, _, _, _, _]) true) _ _ _; refine WC.drawS hS [0, 1, 2, 3, 4, 5, 6, 7] [0, 1, 2, 3, 4, 5, 6, 7] (by kernel_rfl) (by kernel_rfl) ?_; clear hS; intro w hS hM) | (show WC _ _ (Code.region _ (List.toArray [_, _, _, _, _, _, _, _, _, _, _, _]) true) _ _ _; refine WC.drawS hS [0, 1, 2, 3, 4, 5, 6, 7, 8, 9, 10, 11] [0, 1, 2, 3, 4, 5, 6, 7, 8, 9, 10, 11] (by kernel_rfl) (by kernel_rfl) ?_; clear hS; intro w hS hM) | refine WC.condT rfl (decide_eq_true (by first | with_reducible assumption | omega)) ?_ | refine WC.condF rfl (decide_eq_false (by first | with_reducible assumption | omega)) ?_) | (show WD _ _ _ _ _ _ _ _ _; first | refine WD.pure rfl rfl rfl rfl rfl ?_ | refine WD.nil ?_ | refine WD.load rfl rfl (LdOk.box Mm rfl) rfl rfl rfl rfl ?_ | (refine WD.load rfl rfl (LdOk.snap0 hF hr Mm rfl) rfl rfl rfl rfl ?_) | refine WD.index rfl rfl rfl rfl (by first | with_reducible assumption | omega) rfl rfl rfl rfl rfl ?_) | refine seqQ_n ?_ | refine blkQ_n ?_)
          replace hS : St w0 _ w (_ :: _ :: _ :: .own (.slice A3 (out.length + 1 + 1) cap3) 159 2 (out.length + 1 + 1) (rts out ++ [str key, str val] ++ [str k, str v]) :: _) _ := hS
          rw [rts_snoc', rts_snoc', List.append_assoc, hlen2] at hS
          exact rndQ_n (i + 1, true, out ++ [⟨key, val⟩, ⟨k, v⟩], A3, cap3) ⟨⟨by omega, hnx.symm⟩, hS.droplast2 Pu⟩ (by show l.length - (i + 1) < l.length - i; omega) ⟨(by rw [← hlen2]; rfl), rfl, vint (by omega), trivial⟩ ⟨rfl, rfl, trivial⟩
        · rw [if_neg (fun hh => hc hh.2)] at hnx
          have hc0 : Op.bytesLess key k = false := by cases h : Op.bytesLess key k <;> simp_all
          have hlen : out.length + 1 = (out ++ [(⟨k, v⟩ : Rt)]).length := by simp
          repeat' (first | (show WL _ _ _ _ _ _ _; first | refine WL.pure rfl rfl rfl rfl ?_ | refine WL.nil ?_ | refine WL.add rfl rfl rfl (by omega) rfl rfl rfl ?_ | (refine WL.load hS rfl rfl (LdOk.snap0 hF hr Mm rfl) rfl rfl rfl ?_) | (refine WL.app (m := 1) hS rfl rfl rfl rfl (RdOk.box Mm) rfl rfl (fun A cap => Rp) (by omega) rfl rfl rfl ?_; intro A3 cap3 w hS) | refine WL.index rfl rfl rfl rfl (by first | with_reducible assumption | omega) rfl rfl rfl rfl ?_ | (refine WL.slit hS rfl rfl rfl rfl rfl ?_; intro w b hS)) | (show WC _ _ _ _ _ _; first | refine WC.condF rfl hc0 ?_ | refine WC.seq ?_ | refine WC.region ?_ | refine WC.block ?_ | refine WC.skip ?_ | (show WC _ _ (Code.region _ (List.toArray [_, _, _, _, _, _, _, _]) true) _ _ _; refine WC.drawS hS [0, 1, 2, 3, 4, 5, 6, 7] [0, 1, 2, 3, 4, 5, 6, 7] (by kernel_rfl) (by kernel_rfl) ?_; clear hS; intro w hS hM) | (show WC _ _ (Code.region _ (List.toArray [_, _, _, _, _, _, _, _, _, _, _, _]) true) _ _ _; refine WC.drawS hS [0, 1, 2, 3, 4, 5, 6, 7, 8, 9, 10, 11] [0, 1, 2, 3, 4, 5, 6, 7, 8, 9, 10, 11] (by kernel_rfl) (by kernel_rfl) ?_; clear hS; intro w hS hM) | refine WC.condT rfl (decide_eq_true (by first | with_reducible assumption | omega)) ?_ | refine WC.condF rfl (decide_eq_false (by first | with_reducible assumption | omega)) ?_) | (show WD _ _ _ _ _ _ _ _ _; first | refine WD.pure rfl rfl rfl rfl rfl ?_ | refine WD.nil ?_ | refine WD.load rfl rfl (LdOk.box Mm rfl) rfl rfl rfl rfl ?_ | (refine WD.load rfl rfl (LdOk.snap0 hF hr Mm rfl) rfl rfl rfl rfl ?_) | refine WD.index rfl rfl rfl rfl (by first | with_reducible assumption | omega) rfl rfl rfl rfl rfl ?_) | refine seqQ_n ?_ | refine blkQ_n ?_)
          replace hS : St w0 _ w (_ :: _ :: .own (.slice A3 (out.length + 1) cap3) 159 2 (out.length + 1) (rts out ++ [str k, str v]) :: _) _ := hS
          rw [rts_snoc', hlen] at hS
          exact rndQ_n (i + 1, false, out ++ [⟨k, v⟩], A3, cap3) ⟨⟨by omega, hnx.symm⟩, hS.droplast2 Pu⟩ (by show l.length - (i + 1) < l.length - i; omega) ⟨(by rw [← hlen]; rfl), rfl, vint (by omega), trivial⟩ ⟨rfl, rfl, trivial⟩
  · have hke : i = l.length := by omega
    subst hke
    rw [List.take_length] at ho
    rw [← ho]
    clear hL hsn hfd
    cases d with
    | true =>
      repeat' (first | (show WL _ _ _ _ _ _ _; first | refine WL.pure rfl rfl rfl rfl ?_ | refine WL.nil ?_) | (show WC _ _ _ _ _ _; first | refine WC.seq ?_ | refine WC.region ?_ | refine WC.skip ?_ | refine WC.exit ?_ | refine WC.ret ?_ | refine WC.condF rfl (by decide) ?_ | refine WC.condF rfl (decide_eq_false (by first | with_reducible assumption | omega)) ?_) | refine seqQ_n ?_ | refine seqQ_x ?_ | refine blkQ_hit rfl ?_ | refine rndQ_x ?_)
      exact fin1r rfl rfl ⟨hS.upd, _, _, rfl, hS.newOf Mm⟩
    | false =>
      have hlen : out.length + 1 = (out ++ [(⟨key, val⟩ : Rt)]).length := by simp
      repeat' (first | (show WL _ _ _ _ _ _ _; first | refine WL.pure rfl rfl rfl rfl ?_ | refine WL.nil ?_ | refine WL.load hS rfl rfl (LdOk.box Mm rfl) rfl rfl rfl ?_ | (refine WL.app (m := 1) hS rfl rfl rfl rfl (RdOk.box Mm) rfl rfl (fun A cap => Rp) (by omega) rfl rfl rfl ?_; intro A3 cap3 w hS) | refine WL.build rfl rfl rfl rfl rfl ?_ | (refine WL.slit hS rfl rfl rfl rfl rfl ?_; intro w b hS)) | (show WC _ _ _ _ _ _; first | refine WC.seq ?_ | refine WC.region ?_ | refine WC.exit ?_ | refine WC.ret ?_ | refine WC.condT rfl (by decide) ?_ | refine WC.condF rfl (decide_eq_false (by first | with_reducible assumption | omega)) ?_) | refine seqQ_n ?_ | refine seqQ_x ?_ | refine blkQ_hit rfl ?_ | refine rndQ_x ?_)
      replace hS : St w0 _ w (_ :: _ :: .own (.slice A3 (out.length + 1) cap3) 159 2 (out.length + 1) (rts out ++ [str key, str val]) :: _) _ := hS
      rw [rts_snoc', hlen] at hS
      exact fin1r rfl rfl ⟨hS.upd, A3, cap3, (by dsimp only; rw [if_neg (by decide), ← hlen]), hS.newOf Mm⟩
def rallR (w0 : World) (A : Option Addr) (cap : Nat) (ops : List Chg) (l : List Rt) (v : Value) (w' : World) : Prop :=
  Upd [] w0 w' ∧ ∃ B c, v = .slice B l.length c ∧ ((ops = [] ∧ B = A ∧ c = cap) ∨ (ops ≠ [] ∧ New w0 w' (.own (.slice B l.length c) 159 2 l.length (rts l))))
theorem mset_leT {β : Type} (m : List (List UInt8 × β)) (p : List UInt8) (v : β) : (mset m p v).length ≤ m.length + 1 := by
  induction m with
  | nil => simp [mset]
  | cons x m ih =>
    obtain ⟨k, u⟩ := x
    unfold mset
    split
    · simp
    · simp only [List.length_cons]; omega
theorem rtall_len : ∀ (ops : List Chg) (m : Rws) {l : List Rt}, RepT l m → (ops.foldl (fun l o => rtR o l) l).length ≤ l.length + ops.length
  | [], _, l, _ => Nat.le_refl _
  | o :: ops, m, l, h => by
    rw [List.foldl_cons]
    have h1 := rtall_len ops _ (h.set o)
    have h2 : (rtR o l).length ≤ l.length + 1 := by
      rw [(h.set o).len, h.len]
      split
      · have := (mdel_sub m o.key).length_le; omega
      · have : (mset m o.key o.val).length ≤ m.length + 1 := mset_leT m o.key o.val
        exact this
    rw [List.length_cons]; omega
set_option maxHeartbeats 16000000 in
set_option maxRecDepth 100000 in
theorem rtall_c (l : List Rt) (m : Rws) (ops : List Chg) {A A2 : Option Addr} {cap cap2 : Nat} {w0 : World} (hm : RepT l m) (h : SlAt cRt (Old w0) w0 A l) (h2 : SlAt cChg (Old w0) w0 A2 ops) (hl : l.length + ops.length ≤ 268435456) :
    Cal Tryz.prog 95 [.slice A l.length cap, .slice A2 ops.length cap2] w0 (rallR w0 A cap ops (ops.foldl (fun l o => rtR o l) l)) := by
  refine Cal.mk' (by kernel_rfl) Tryz.func95 rfl rfl fun hS => ?_
  have hlen := fun k => rtall_len (ops.take k) m hm
  rcases ops with _ | ⟨o, ops⟩
  · repeat' (first | (show WL _ _ _ _ _ _ _; first | refine WL.pure rfl rfl rfl rfl ?_ | refine WL.nil ?_) | (show WC _ _ _ _ _ _; first | refine WC.seq ?_ | refine WC.region ?_ | refine WC.block ?_) | refine seqQ_n ?_)
    refine WC.loop (σ := Unit) [0, 1] (fun _ => [(5, .int .i64 0)]) (fun _ w => St w0 [] w [] [⟨w0, Old w0⟩]) (fun _ => 0) () hS ⟨rfl, trivial⟩ ?_
    clear hS
    rintro _ g w hS
    show WC _ _ _ (lf _ [(5, .int .i64 0)] _ _) _ _
    repeat' (first | (show WL _ _ _ _ _ _ _; first | refine WL.pure rfl rfl rfl rfl ?_ | refine WL.nil ?_) | (show WC _ _ _ _ _ _; first | refine WC.seq ?_ | refine WC.region ?_ | refine WC.exit ?_ | refine WC.ret ?_ | refine WC.condF rfl (by decide) ?_) | refine seqQ_n ?_ | refine seqQ_x ?_ | refine blkQ_hit rfl ?_ | refine rndQ_x ?_)
    exact fin1r rfl rfl ⟨hS.upd, _, _, rfl, .inl ⟨rfl, rfl, rfl⟩⟩
  · have hst := fun (l : List Rt) (o : Chg) {A : Option Addr} {cap : Nat} {w0 : World} => rtset_c l o (A := A) (cap := cap) (w0 := w0)
    repeat' (first | (show WL _ _ _ _ _ _ _; first | refine WL.pure rfl rfl rfl rfl ?_ | refine WL.nil ?_) | (show WC _ _ _ _ _ _; first | refine WC.seq ?_ | refine WC.region ?_ | refine WC.block ?_) | refine seqQ_n ?_)
    refine WC.loop (σ := Nat × List Rt × Option Addr × Nat) [1] (fun (i, L, B, c) => [(0, .slice B L.length c), (5, .int .i64 (i : Int))])
      (fun (i, L, B, c) w => (i ≤ ops.length + 1 ∧ L = ((o :: ops).take i).foldl (fun l o => rtR o l) l ∧ (i = 0 → B = A ∧ c = cap)) ∧ St w0 [] w (if i = 0 then [] else [.own (.slice B L.length c) 159 2 L.length (rts L)]) [⟨w0, Old w0⟩]) (fun (i, _) => ops.length + 1 - i) (0, l, A, cap) ⟨⟨Nat.zero_le _, rfl, fun _ => ⟨rfl, rfl⟩⟩, hS⟩ ⟨rfl, rfl, trivial⟩ ?_
    clear hS
    rintro ⟨i, L, B, c⟩ g w ⟨⟨hi, hL, hBc⟩, hS⟩
    show WC _ _ _ (lf _ [(0, .slice B L.length c), (5, .int .i64 (i : Int))] _ _) _ _
    by_cases hlt : i < ops.length + 1
    · have hlt' : i < (o :: ops).length := hlt
      obtain ⟨rb, ro, es, rfl, hF, hr, hes⟩ := h2.at_ hlt'
      have hes : es = cellsChg (o :: ops)[i] := hes
      subst hes
      have hr : w0.rangeAt rb (ro + i * 3) (cellsChg (o :: ops)[i]) := hr
      have hnx : ((o :: ops).take (i + 1)).foldl (fun l o => rtR o l) l = rtR (o :: ops)[i] L := by
        rw [List.take_succ_eq_append_getElem hlt', List.foldl_append, ← hL]; rfl
      have hb1 := hlen i
      rw [← hL, List.length_take] at hb1
      have hL0 : i = 0 → L = l := by rintro rfl; exact hL
      clear hL hlen hes
      generalize (o :: ops)[i] = x at *
      unfold cellsChg at hr
      have hst1 := fun (w : World) (hA : SlAt cRt (Old w) w B L) => hst L x (cap := c) hA (by rw [List.length_cons] at hl; omega)
      unfold cellsChg at hst1
      obtain ⟨key, val, gone⟩ := x
      dsimp only at hst1 hr
      by_cases h0 : i = 0
      · subst h0
        rw [if_pos rfl] at hS
        obtain ⟨rfl, rfl⟩ := hBc rfl
        obtain rfl := hL0 rfl
        clear hL0 hBc
        repeat' (first | (show WL _ _ _ _ _ _ _; first | refine WL.pure rfl rfl rfl rfl ?_ | refine WL.nil ?_ | refine WL.add rfl rfl rfl (by omega) rfl rfl rfl ?_ | (refine WL.load hS rfl rfl (LdOk.snap0 hF hr Mm rfl) rfl rfl rfl ?_) | (refine WL.callG rfl rfl (hst1 _ (hS.slO Mm h)) rfl rfl rfl ?_; rintro v w ⟨hu, B2, c2, rfl, hn⟩; replace hS := hS.new hu hn; clear hu hn) | refine WL.index rfl rfl rfl rfl (by first | with_reducible assumption | omega) rfl rfl rfl rfl ?_) | (show WC _ _ _ _ _ _; first | refine WC.seq ?_ | refine WC.region ?_ | refine WC.block ?_ | refine WC.skip ?_ | refine WC.condT rfl (decide_eq_true (by first | with_reducible assumption | omega)) ?_) | refine seqQ_n ?_ | refine blkQ_n ?_)
        exact rndQ_n (1, rtR ⟨key, val, gone⟩ L, B2, c2) ⟨⟨by omega, hnx.symm, fun hh => by omega⟩, hS.droplast2 Pu⟩ (by show ops.length + 1 - 1 < ops.length + 1 - 0; omega) ⟨rfl, rfl, trivial⟩ ⟨rfl, trivial⟩
      · rw [if_neg h0] at hS
        clear hL0 hBc
        repeat' (first | (show WL _ _ _ _ _ _ _; first | refine WL.pure rfl rfl rfl rfl ?_ | refine WL.nil ?_ | refine WL.add rfl rfl rfl (by omega) rfl rfl rfl ?_ | (refine WL.load hS rfl rfl (LdOk.snap0 hF hr Mm rfl) rfl rfl rfl ?_) | (refine WL.callG rfl rfl (hst1 _ (St.ownSl (enc := encRt) (hsz := fun _ => rfl) (l := L) (by decide) hS Mm)) rfl rfl rfl ?_; rintro v w ⟨hu, B2, c2, rfl, hn⟩; replace hS := hS.new hu hn; clear hu hn) | refine WL.index rfl rfl rfl rfl (by first | with_reducible assumption | omega) rfl rfl rfl rfl ?_) | (show WC _ _ _ _ _ _; first | refine WC.seq ?_ | refine WC.region ?_ | refine WC.block ?_ | refine WC.skip ?_ | refine WC.condT rfl (decide_eq_true (by first | with_reducible assumption | omega)) ?_) | refine seqQ_n ?_ | refine blkQ_n ?_)
        exact rndQ_n (i + 1, rtR ⟨key, val, gone⟩ L, B2, c2) ⟨⟨by omega, hnx.symm, fun hh => by omega⟩, (by rw [if_neg (by omega)]; exact hS.droplast2 Pu)⟩ (by show ops.length + 1 - (i + 1) < ops.length + 1 - i; omega) ⟨rfl, vint (by omega), trivial⟩ ⟨rfl, trivial⟩
    · have hke : i = ops.length + 1 := by omega
      subst hke
      rw [show ops.length + 1 = (o :: ops).length from rfl, List.take_length] at hL
      rw [if_neg (by omega)] at hS
      subst hL
      repeat' (first | (show WL _ _ _ _ _ _ _; first | refine WL.pure rfl rfl rfl rfl ?_ | refine WL.nil ?_) | (show WC _ _ _ _ _ _; first | refine WC.seq ?_ | refine WC.region ?_ | refine WC.exit ?_ | refine WC.ret ?_ | refine WC.condF rfl (by first | (simp; done) | (simp; omega)) ?_) | refine seqQ_n ?_ | refine seqQ_x ?_ | refine blkQ_hit rfl ?_ | refine rndQ_x ?_)
      exact fin1r rfl rfl ⟨hS.upd, _, _, rfl, .inr ⟨by simp, hS.newOf (List.Mem.head _)⟩⟩
end Go.Proofs.YtccfiohagbneaaaGreatDoor

/- What is proved: what the reference's disk does: Restart. Conditions: a disk of bounded size. -/
namespace Go.Proofs.YtccfiohagbneaaaGreatDoor
open Go Go.J Go.RowKit
theorem shr_quo (x s : Int) (h : 0 ≤ s ∧ s ≤ 64) (hx : 0 ≤ x) : shrI .u64 x s = x / 2 ^ s.toNat := by
  unfold shrI
  rw [show min s.toNat IntKind.u64.bits = s.toNat by simp [IntKind.bits]; omega]
  exact Int.fdiv_eq_ediv_of_nonneg x (Int.le_of_lt (Int.pow_pos (by decide)))
theorem quo_wrap {x m : Int} (hx : 0 ≤ x) (hx2 : x < 18446744073709551616) (hm : 1 ≤ m) : IntKind.u64.wrap (x / m) = x / m := by
  have h1 := Int.ediv_nonneg hx (show 0 ≤ m by omega)
  have h2 : x / m ≤ x := Int.ediv_le_self m hx
  rw [IntKind.wrap_u64]
  omega
theorem wrap_in (y : Int) : 0 ≤ IntKind.u64.wrap y ∧ IntKind.u64.wrap y < 18446744073709551616 := by rw [IntKind.wrap_u64]; omega
set_option maxHeartbeats 4000000 in
set_option maxRecDepth 100000 in
theorem rmix_c (loss n : Int) (w0 : World) : Cal Tryz.prog 79 [.int .u64 loss, .int .u64 n] w0 (fun v w' => Upd [] w0 w' ∧ v = .int .u64 (mixE loss n)) := by
  refine Cal.mk' (by kernel_rfl) Tryz.func79 rfl rfl fun hS => ?_
  have e1 := fun y => shr_quo (IntKind.u64.wrap y) 30 (by decide) (wrap_in y).1
  have e2 := fun y => shr_quo (IntKind.u64.wrap y) 27 (by decide) (wrap_in y).1
  have e3 := fun y => shr_quo (IntKind.u64.wrap y) 31 (by decide) (wrap_in y).1
  unfold mixE mixS
  rw [e1, e2, e3]
  clear e1 e2 e3
  repeat' (first | (show WL _ _ _ _ _ _ _; first | refine WL.pure rfl rfl rfl rfl ?_ | refine WL.nil ?_ | (refine WL.quoK (b := 1073741824) rfl rfl rfl (wrap_in _).1 (by decide) (quo_wrap (wrap_in _).1 (wrap_in _).2 (by decide)) rfl rfl rfl ?_) | (refine WL.quoK (b := 134217728) rfl rfl rfl (wrap_in _).1 (by decide) (quo_wrap (wrap_in _).1 (wrap_in _).2 (by decide)) rfl rfl rfl ?_) | (refine WL.quoK (b := 2147483648) rfl rfl rfl (wrap_in _).1 (by decide) (quo_wrap (wrap_in _).1 (wrap_in _).2 (by decide)) rfl rfl rfl ?_)) | (show WC _ _ _ _ _ _; first | refine WC.seq ?_ | refine WC.region ?_ | refine WC.ret ?_) | refine seqQ_n ?_)
  exact fin1r rfl rfl ⟨hS.upd, rfl⟩
set_option maxHeartbeats 32000000 in
set_option maxRecDepth 100000 in
theorem rfrestart_c {dk : Nat} {D : Dk} {fp : List Nat} (loss : Int) {w0 : World} (hi : InL w0 [rfC dk D fp]) (hk : D.Kp 1099511627776) (hn : D.items.length ≤ 1048576) :
    Cal Tryz.prog 21 [.pointer (some ⟨dk, 0, none⟩), .int .i64 loss] w0 (fun v w' => v = .int .i64 0 ∧ ∃ fp', MutL w0 w' [rfC dk D fp] [rfC dk (D.restart loss) fp']) := by
  refine Cal.mkL hi (by kernel_rfl) Tryz.func21 rfl rfl fun hS => ?_
  obtain ⟨_, ⟨A, cap, l, hR, rfl⟩, hfp, hS⟩ := St.objOpen hS
  replace hS : St w0 _ w0 (rfL dk A cap l D) _ := hS
  have hkl : D.keys.length = D.items.length := by unfold Dk.keys; rw [(List.mergeSort_perm _ _).length_eq, List.length_map]
  repeat' (first | (show WL _ _ _ _ _ _ _; first | refine WL.pure rfl rfl rfl rfl ?_ | refine WL.nil ?_) | (show WC _ _ _ _ _ _; first | refine WC.seq ?_ | refine WC.region ?_ | refine WC.block ?_) | refine seqQ_n ?_)
  refine WC.loop (σ := Nat × Int × Dk × Option Addr × Nat × List Ri) [0, 1] (fun (k, n, _) => [(5, .int .i64 n), (6, .int .i64 (k : Int))])
    (fun (k, n, E, A, cap, l) w => k ≤ D.items.length ∧ 0 ≤ n ∧ n ≤ k ∧ E.Kp 1099511627776 ∧ (D.keys.drop k).foldl (lose1 loss) (n, E) = D.lose loss ∧ E.keys = D.keys ∧ RepL l E.items ∧ St w0 _ w (rfL dk A cap l E) _)
    (fun (k, _) => D.items.length - k) (0, 0, D, A, cap, l) ⟨Nat.zero_le _, Int.le_refl _, Int.le_refl _, hk, rfl, rfl, hR, hS⟩ ⟨rfl, rfl, trivial⟩ ?_
  clear hS hR
  rintro ⟨k, n, E, A, cap, l⟩ g w ⟨hk', h0, hnk, hKp, hfold, hks, hR, hS⟩
  show WC _ _ _ (lf _ [(5, .int .i64 n), (6, .int .i64 (k : Int))] _ _) _ _
  have hpk := hR.keys
  rw [hks] at hpk
  have hll : l.length = D.items.length := by rw [← hkl, ← hpk, List.length_map]
  by_cases hlt : k < D.items.length
  · have hlt2 : k < D.keys.length := by omega
    have hlt3 : k < l.length := by omega
    obtain ⟨kg, ko, rfl⟩ := hS.own_addr (A := A) (n := l.length) Mm (by omega)
    have hstep : D.keys.drop k = D.keys[k] :: D.keys.drop (k + 1) := List.drop_eq_getElem_cons hlt2
    rw [hstep, List.foldl_cons] at hfold
    have hpe : l[k].path = D.keys[k] := by
      have := List.getElem_map Ri.path (l := l) (i := k) (h := by simpa using hlt3)
      rw [← this]
      simp only [hpk]
    have hg := hR.mem (List.getElem_mem hlt3)
    rw [hpe] at hg
    have hli : l[k]? = some ⟨D.keys[k], l[k].it⟩ := by
      rw [List.getElem?_eq_getElem hlt3, ← hpe]
    have hmem : D.keys[k] ∈ E.items.map Prod.fst := List.mem_map.2 ⟨_, mget_mem hg, rfl⟩
    have hEat : E.at D.keys[k] = l[k].it := by unfold Dk.at; rw [hg]; rfl
    clear hstep hpe hpk hg
    generalize D.keys[k] = p at *
    have hat := hKp.at_ p
    have hKp' := lose1_Kp (loss := loss) (s := (n, E)) (p := p) hKp
    have hl1 : lose1 loss (n, E) p = if (E.at p).loose then (n + 1, E.set p { E.at p with data := loseK loss (n + 1) (E.at p), kept := loseK loss (n + 1) (E.at p), loose := false, anew := false }) else (n, E) := rfl
    rw [hl1] at hfold hKp'
    clear hl1
    rw [hEat] at hfold hKp' hat
    generalize l[k].it = it at *
    obtain ⟨dir, dat, kept, loose, anew, stamp⟩ := it
    dsimp only at hfold hKp' hat
    have hpk := mixE_in (IntKind.u64.wrap loss) (n + 1)
    rw [← hll] at hn hlt
    cases loose with
    | false =>
      rw [if_neg (by decide)] at hfold hKp'
      repeat' (first | (show WL _ _ _ _ _ _ _; first | refine WL.pure rfl rfl rfl rfl ?_ | refine WL.nil ?_ | refine WL.load hS rfl rfl (LdOk.box Mm rfl) rfl rfl rfl ?_ | refine WL.add rfl rfl rfl (by omega) rfl rfl rfl ?_ | (refine WL.load (v := .agg ⟨[str p, .bool dir, str dat, str kept, .bool false, .bool anew, .int .i64 stamp]⟩) hS rfl rfl (LdOk.ownElemE (enc := encRi) (k := k) (fun _ => rfl) Mm hli rfl rfl) rfl rfl rfl ?_) | (refine WL.store hS rfl rfl rfl Sb rfl rfl rfl ?_; intro w hS) | (refine WL.alloc hS rfl rfl rfl rfl rfl rfl ?_; intro w b hS) | refine WL.index rfl rfl rfl rfl (by first | with_reducible assumption | omega) rfl rfl rfl rfl ?_) | (show WC _ _ _ _ _ _; first | refine WC.seq ?_ | refine WC.region ?_ | refine WC.block ?_ | refine WC.skip ?_ | refine WC.exit ?_ | refine WC.condT rfl (by decide) ?_ | refine WC.condT rfl (decide_eq_true (by first | with_reducible assumption | omega)) ?_) | refine seqQ_n ?_ | refine seqQ_x ?_ | refine blkQ_hit rfl ?_)
      exact rndQ_n (k + 1, n, E, some ⟨kg, ko, none⟩, cap, l) ⟨by omega, h0, by show n ≤ ((k + 1 : Nat) : Int); omega, hKp, hfold, hks, hR, hS.droplast2 Pu⟩ (by show D.items.length - (k + 1) < D.items.length - k; omega) ⟨rfl, vint (by omega), trivial⟩ ⟨rfl, rfl, trivial⟩
    | true =>
      rw [if_pos rfl] at hfold hKp'
      cases anew with
      | true =>
        have he0 := Int.emod_nonneg (mixE (IntKind.u64.wrap loss) (n + 1)) (show ((dat.length : Int) + 2) ≠ 0 by omega)
        have he1 := Int.emod_lt_of_pos (mixE (IntKind.u64.wrap loss) (n + 1)) (show (0 : Int) < (dat.length : Int) + 2 by omega)
        obtain ⟨mm, hmm⟩ : ∃ mm : Nat, mixE (IntKind.u64.wrap loss) (n + 1) % ((dat.length : Int) + 2) = (mm : Int) := ⟨_, (Int.toNat_of_nonneg he0).symm⟩
        rw [hmm] at he0 he1
        have hK : loseK loss (n + 1) ⟨dir, dat, kept, true, true, stamp⟩ = if 0 < mm then dat.take (mm - 1) else kept := by
          unfold loseK
          rw [if_pos rfl]
          dsimp only
          rw [hmm]
          by_cases hz : 0 < mm
          · rw [if_pos (by omega), if_pos hz]; congr 1; omega
          · rw [if_neg (by omega), if_neg hz]
        rw [hK] at hfold hKp'
        clear hK
        by_cases hz : 0 < mm
        · have hm1 : (mm : Int) - 1 = ((mm - 1 : Nat) : Int) := by omega
          rw [if_pos hz] at hfold hKp'
          repeat' (first | (show WL _ _ _ _ _ _ _; first | (refine WL.convU rfl rfl rfl (by omega) rfl rfl rfl ?_) | (refine WL.sub (a := (mm : Int)) (b := 1) rfl rfl rfl (by omega) rfl rfl rfl ?_; rw [hm1]) | refine WL.pure rfl rfl rfl rfl ?_ | refine WL.nil ?_ | refine WL.load hS rfl rfl (LdOk.box Mm rfl) rfl rfl rfl ?_ | refine WL.add rfl rfl rfl (by omega) rfl rfl rfl ?_ | (refine WL.highS (j := mm - 1) rfl rfl rfl rfl (by omega) rfl rfl rfl ?_) | (refine WL.load (v := .agg ⟨[str p, .bool dir, str dat, str kept, .bool true, .bool true, .int .i64 stamp]⟩) hS rfl rfl (LdOk.ownElemE (enc := encRi) (k := k) (fun _ => rfl) Mm hli rfl rfl) rfl rfl rfl ?_) | (refine WL.calls hS rfl rfl (rmix_c (IntKind.u64.wrap loss) (n + 1) _) rfl rfl rfl ?_; rintro v w rfl hS) | (refine WL.remU rfl rfl rfl (by omega) (by omega) rfl rfl rfl ?_; rw [hmm]) | (refine WL.callL (D := rfL dk (some ⟨kg, ko, none⟩) cap l E) hS Pu rfl rfl (fun hI => rfstamped_c ⟨p, ⟨dir, dat.take (mm - 1), dat.take (mm - 1), false, false, stamp⟩⟩ hI) rfl rfl rfl ?_; rintro v w ⟨rfl, hm⟩ hS; replace hS := hS _ hm; clear hm) | (refine WL.callL (D := rfL dk (some ⟨kg, ko, none⟩) cap l { E with stamps := IntKind.i64.wrap (E.stamps + 1) }) hS Pu rfl rfl (fun hI => rfput_c ⟨p, ⟨dir, dat.take (mm - 1), dat.take (mm - 1), false, false, IntKind.i64.wrap (E.stamps + 1)⟩⟩ (D := { E with stamps := IntKind.i64.wrap (E.stamps + 1) }) hR hI hn) rfl rfl rfl ?_; rintro v w ⟨rfl, A', cap', l', hR', hm⟩ hS; replace hS := hS _ hm; clear hm) | refine WL.conv64 rfl rfl rfl (by omega) rfl rfl rfl ?_ | (refine WL.store hS rfl rfl rfl Sb rfl rfl rfl ?_; intro w hS) | (refine WL.alloc hS rfl rfl rfl rfl rfl rfl ?_; intro w b hS) | refine WL.index rfl rfl rfl rfl (by first | with_reducible assumption | omega) rfl rfl rfl rfl ?_) | (show WC _ _ _ _ _ _; first | refine WC.seq ?_ | refine WC.region ?_ | refine WC.block ?_ | refine WC.skip ?_ | refine WC.condT rfl (by with_reducible rfl) ?_ | refine WC.condF rfl (by decide) ?_ | refine WC.condT rfl (decide_eq_true (by first | with_reducible assumption | omega)) ?_) | refine seqQ_n ?_ | refine blkQ_n ?_)
          exact rndQ_n (k + 1, n + 1, E.set p ⟨dir, dat.take (mm - 1), dat.take (mm - 1), false, false, stamp⟩, A', cap', l') ⟨by omega, by show 0 ≤ n + 1; omega, by show n + 1 ≤ ((k + 1 : Nat) : Int); omega, hKp', hfold, (set_keys hmem).trans hks, hR', hS.droplast2 Pu⟩ (by show D.items.length - (k + 1) < D.items.length - k; omega) ⟨rfl, vint (by omega), trivial⟩ ⟨rfl, rfl, trivial⟩
        · rw [if_neg hz] at hfold hKp'
          repeat' (first | (show WL _ _ _ _ _ _ _; first | (refine WL.convU rfl rfl rfl (by omega) rfl rfl rfl ?_) | refine WL.pure rfl rfl rfl rfl ?_ | refine WL.nil ?_ | refine WL.load hS rfl rfl (LdOk.box Mm rfl) rfl rfl rfl ?_ | refine WL.add rfl rfl rfl (by omega) rfl rfl rfl ?_ | (refine WL.load (v := .agg ⟨[str p, .bool dir, str dat, str kept, .bool true, .bool true, .int .i64 stamp]⟩) hS rfl rfl (LdOk.ownElemE (enc := encRi) (k := k) (fun _ => rfl) Mm hli rfl rfl) rfl rfl rfl ?_) | (refine WL.calls hS rfl rfl (rmix_c (IntKind.u64.wrap loss) (n + 1) _) rfl rfl rfl ?_; rintro v w rfl hS) | (refine WL.remU rfl rfl rfl (by omega) (by omega) rfl rfl rfl ?_; rw [hmm]) | (refine WL.callL (D := rfL dk (some ⟨kg, ko, none⟩) cap l E) hS Pu rfl rfl (fun hI => rfstamped_c ⟨p, ⟨dir, kept, kept, false, false, stamp⟩⟩ hI) rfl rfl rfl ?_; rintro v w ⟨rfl, hm⟩ hS; replace hS := hS _ hm; clear hm) | (refine WL.callL (D := rfL dk (some ⟨kg, ko, none⟩) cap l { E with stamps := IntKind.i64.wrap (E.stamps + 1) }) hS Pu rfl rfl (fun hI => rfput_c ⟨p, ⟨dir, kept, kept, false, false, IntKind.i64.wrap (E.stamps + 1)⟩⟩ (D := { E with stamps := IntKind.i64.wrap (E.stamps + 1) }) hR hI hn) rfl rfl rfl ?_; rintro v w ⟨rfl, A', cap', l', hR', hm⟩ hS; replace hS := hS _ hm; clear hm) | refine WL.conv64 rfl rfl rfl (by omega) rfl rfl rfl ?_ | (refine WL.store hS rfl rfl rfl Sb rfl rfl rfl ?_; intro w hS) | (refine WL.alloc hS rfl rfl rfl rfl rfl rfl ?_; intro w b hS) | refine WL.index rfl rfl rfl rfl (by first | with_reducible assumption | omega) rfl rfl rfl rfl ?_) | (show WC _ _ _ _ _ _; first | refine WC.seq ?_ | refine WC.region ?_ | refine WC.block ?_ | refine WC.skip ?_ | refine WC.condT rfl (by with_reducible rfl) ?_ | refine WC.condF rfl (by decide) ?_ | refine WC.condT rfl (decide_eq_true (by first | with_reducible assumption | omega)) ?_ | refine WC.condF rfl (decide_eq_false (by first | with_reducible assumption | omega)) ?_) | refine seqQ_n ?_ | refine blkQ_n ?_)
          exact rndQ_n (k + 1, n + 1, E.set p ⟨dir, kept, kept, false, false, stamp⟩, A', cap', l') ⟨by omega, by show 0 ≤ n + 1; omega, by show n + 1 ≤ ((k + 1 : Nat) : Int); omega, hKp', hfold, (set_keys hmem).trans hks, hR', hS.droplast2 Pu⟩ (by show D.items.length - (k + 1) < D.items.length - k; omega) ⟨rfl, vint (by omega), trivial⟩ ⟨rfl, rfl, trivial⟩
      | false =>
        have hkd := hat.2.2 rfl rfl
        have he0 := Int.emod_nonneg (mixE (IntKind.u64.wrap loss) (n + 1)) (show ((dat.length : Int) - kept.length + 1) ≠ 0 by omega)
        have he1 := Int.emod_lt_of_pos (mixE (IntKind.u64.wrap loss) (n + 1)) (show (0 : Int) < (dat.length : Int) - kept.length + 1 by omega)
        obtain ⟨mm, hmm⟩ : ∃ mm : Nat, mixE (IntKind.u64.wrap loss) (n + 1) % ((dat.length : Int) - kept.length + 1) = (mm : Int) := ⟨_, (Int.toNat_of_nonneg he0).symm⟩
        rw [hmm] at he0 he1
        have hK : loseK loss (n + 1) ⟨dir, dat, kept, true, false, stamp⟩ = dat.take (kept.length + mm) := by
          unfold loseK
          rw [if_neg (show ¬ false = true by decide)]
          dsimp only
          rw [hmm]
          congr 1
        rw [hK] at hfold hKp'
        clear hK
        repeat' (first | (show WL _ _ _ _ _ _ _; first | (refine WL.convU rfl rfl rfl (by omega) rfl rfl rfl ?_) | refine WL.pure rfl rfl rfl rfl ?_ | refine WL.nil ?_ | refine WL.load hS rfl rfl (LdOk.box Mm rfl) rfl rfl rfl ?_ | refine WL.add rfl rfl rfl (by omega) rfl rfl rfl ?_ | refine WL.sub rfl rfl rfl (by omega) rfl rfl rfl ?_ | (refine WL.highS (j := kept.length + mm) rfl rfl rfl (by first | rfl | exact vint (show _ = ((kept.length + mm : Nat) : Int) by omega)) (by omega) rfl rfl rfl ?_) | (refine WL.load (v := .agg ⟨[str p, .bool dir, str dat, str kept, .bool true, .bool false, .int .i64 stamp]⟩) hS rfl rfl (LdOk.ownElemE (enc := encRi) (k := k) (fun _ => rfl) Mm hli rfl rfl) rfl rfl rfl ?_) | (refine WL.calls hS rfl rfl (rmix_c (IntKind.u64.wrap loss) (n + 1) _) rfl rfl rfl ?_; rintro v w rfl hS) | (refine WL.remU rfl rfl rfl (by omega) (by omega) rfl rfl rfl ?_; rw [hmm]) | (refine WL.callL (D := rfL dk (some ⟨kg, ko, none⟩) cap l E) hS Pu rfl rfl (fun hI => rfstamped_c ⟨p, ⟨dir, dat.take (kept.length + mm), dat.take (kept.length + mm), false, false, stamp⟩⟩ hI) rfl rfl rfl ?_; rintro v w ⟨rfl, hm⟩ hS; replace hS := hS _ hm; clear hm) | (refine WL.callL (D := rfL dk (some ⟨kg, ko, none⟩) cap l { E with stamps := IntKind.i64.wrap (E.stamps + 1) }) hS Pu rfl rfl (fun hI => rfput_c ⟨p, ⟨dir, dat.take (kept.length + mm), dat.take (kept.length + mm), false, false, IntKind.i64.wrap (E.stamps + 1)⟩⟩ (D := { E with stamps := IntKind.i64.wrap (E.stamps + 1) }) hR hI hn) rfl rfl rfl ?_; rintro v w ⟨rfl, A', cap', l', hR', hm⟩ hS; replace hS := hS _ hm; clear hm) | refine WL.conv64 rfl rfl rfl (by omega) rfl rfl rfl ?_ | (refine WL.store hS rfl rfl rfl Sb rfl rfl rfl ?_; intro w hS) | (refine WL.alloc hS rfl rfl rfl rfl rfl rfl ?_; intro w b hS) | refine WL.index rfl rfl rfl rfl (by first | with_reducible assumption | omega) rfl rfl rfl rfl ?_) | (show WC _ _ _ _ _ _; first | refine WC.seq ?_ | refine WC.region ?_ | refine WC.block ?_ | refine WC.skip ?_ | refine WC.condF rfl (by with_reducible rfl) ?_ | refine WC.condF rfl (by decide) ?_ | refine WC.condT rfl (decide_eq_true (by first | with_reducible assumption | omega)) ?_) | refine seqQ_n ?_ | refine blkQ_n ?_)
        exact rndQ_n (k + 1, n + 1, E.set p ⟨dir, dat.take (kept.length + mm), dat.take (kept.length + mm), false, false, stamp⟩, A', cap', l') ⟨by omega, by show 0 ≤ n + 1; omega, by show n + 1 ≤ ((k + 1 : Nat) : Int); omega, hKp', hfold, (set_keys hmem).trans hks, hR', hS.droplast2 Pu⟩ (by show D.items.length - (k + 1) < D.items.length - k; omega) ⟨rfl, vint (by omega), trivial⟩ ⟨rfl, rfl, trivial⟩
  · have hke : k = D.items.length := by omega
    subst hke
    rw [← hkl, List.drop_length, List.foldl_nil] at hfold
    rw [← hll] at hn
    have hE : { E with down := false, armed := -1 } = D.restart loss := by unfold Dk.restart; rw [← hfold]
    clear hfold hkl hpk
    have hll2 : (D.items.length : Int) = (l.length : Int) := by rw [hll]
    repeat' (first | (show WL _ _ _ _ _ _ _; first | refine WL.pure rfl rfl rfl rfl ?_ | refine WL.nil ?_ | refine WL.load hS rfl rfl (LdOk.box Mm rfl) rfl rfl rfl ?_ | (refine WL.store hS rfl rfl rfl Sb rfl rfl rfl ?_; intro w hS)) | (show WC _ _ _ _ _ _; first | refine WC.seq ?_ | refine WC.region ?_ | refine WC.exit ?_ | refine WC.ret ?_ | refine WC.condF rfl (decide_eq_false (by first | with_reducible assumption | omega)) ?_) | refine seqQ_n ?_ | refine seqQ_x ?_ | refine blkQ_hit rfl ?_ | refine rndQ_x ?_)
    have hS := St.objClose (φ := rfφ dk { E with down := false, armed := -1 }) (hS.pulls (D := rfL dk A cap l { E with down := false, armed := -1 }) Pu) ⟨A, cap, l, hR, rfl⟩
    rw [hE] at hS
    exact fin1r rfl rfl ⟨rfl, _, hS.mutLp Pu⟩
end Go.Proofs.YtccfiohagbneaaaGreatDoor

/- What is proved: what the reference's journal does: Fill, Reset, Add. Conditions: a disk without limits, of bounded size. -/
namespace Go.Proofs.YtccfiohagbneaaaGreatDoor
open Go Go.J Go.RowKit
theorem mset_le {β : Type} (m : List (List UInt8 × β)) (p : List UInt8) (v : β) : (mset m p v).length ≤ m.length + 1 := by
  have h := congrArg List.length (mset_keys m p v)
  rw [List.length_map] at h
  rw [h]
  split
  · rw [List.length_map]; omega
  · rw [List.length_append, List.length_map]; exact Nat.le_refl _
theorem write_le (D : Dk) (p s : List UInt8) : (D.write p s).2.items.length ≤ D.items.length + 1 := by
  have hs := step_items D
  unfold Dk.write
  repeat' split
  all_goals first
    | (show D.items.length ≤ _; omega)
    | (show D.step.items.length ≤ _; rw [hs]; omega)
    | (show (mset D.step.items p _).length ≤ _; rw [hs]; exact mset_le _ _ _)
theorem sync_le (D : Dk) (p : List UInt8) : (D.sync p).2.items.length ≤ D.items.length + 1 := by
  have hs := step_items D
  unfold Dk.sync
  repeat' split
  all_goals first
    | (show D.items.length ≤ _; omega)
    | (show D.step.items.length ≤ _; rw [hs]; omega)
    | (show (mset D.step.items p _).length ≤ _; rw [hs]; exact mset_le _ _ _)
theorem append_le (D : Dk) (p s : List UInt8) : (D.append p s).2.items.length ≤ D.items.length + 1 := by
  have hs := step_items D
  unfold Dk.append
  repeat' split
  all_goals first
    | (show D.items.length ≤ _; omega)
    | (show D.step.items.length ≤ _; rw [hs]; omega)
    | (show (mset D.step.items p _).length ≤ _; rw [hs]; exact mset_le _ _ _)
set_option maxHeartbeats 8000000 in
set_option maxRecDepth 100000 in
theorem rffill_c {dk : Nat} {D : Dk} {fp : List Nat} (p s : List UInt8) {w0 : World} (hi : InL w0 [rfC dk D fp]) (hp : p.length ≤ 1099511620) (hn : D.items.length ≤ 1048570) (hno : D.Sm 1099511627776) (hs : s.length ≤ 1099511627776) :
    Cal Tryz.prog 69 [.pointer (some ⟨dk, 0, none⟩), str p, str s] w0 (fun v w' => v = .int .i64 (D.fill p s).1 ∧ ∃ fp', MutL w0 w' [rfC dk D fp] [rfC dk (D.fill p s).2 fp']) := by
  refine Cal.mkL hi (by kernel_rfl) Tryz.func69 rfl rfl fun hS => ?_
  have hl2 : (p ++ [95, 116]).length = p.length + 2 := by simp
  have hw := fun (w : World) (hI : InL w [rfC dk D fp]) => rfwrite_c (p ++ [95, 116]) s hI (by omega) (by omega) hs (hno.at_ _)
  have hm1 := hno.write (p := p ++ [95, 116]) hs
  have hn1 := write_le D (p ++ [95, 116]) s
  unfold Dk.fill
  generalize D.write (p ++ [95, 116]) s = r1 at *
  obtain ⟨e1, D1⟩ := r1
  dsimp only at hw hm1 hn1 ⊢
  have hy := fun (fp : List Nat) (w : World) (hI : InL w [rfC dk D1 fp]) => rfsync_c (p ++ [95, 116]) hI (by omega) (by omega)
  have hm2 := hm1.sync (p := p ++ [95, 116])
  have hn2 := sync_le D1 (p ++ [95, 116])
  generalize D1.sync (p ++ [95, 116]) = r2 at *
  obtain ⟨e2, D2⟩ := r2
  dsimp only at hy hm2 hn2 ⊢
  have hr := fun (fp : List Nat) (w : World) (hI : InL w [rfC dk D2 fp]) => rfrename_c (p ++ [95, 116]) p hI (by omega) (by omega) (by omega) (hm2.at_ _) (hm2.at_ _)
  generalize D2.rename (p ++ [95, 116]) p = r3 at *
  obtain ⟨e3, D3⟩ := r3
  dsimp only at hr ⊢
  generalize hpt : p ++ [95, 116] = pt at *
  by_cases h1 : e1 = 0
  · rw [if_neg (fun e => e h1)]
    by_cases h2 : e2 = 0
    · rw [if_neg (fun e => e h2)]
      subst h1 h2
      repeat' (first | (show WL _ _ _ _ _ _ _; first | refine WL.pure rfl rfl rfl rfl ?_ | refine WL.nil ?_ | (refine WL.cat rfl rfl rfl (by show _ + 2 ≤ _; omega) rfl rfl rfl ?_; rw [hpt]) | (refine WL.callL (D := [rfC dk D fp]) hS Pu rfl rfl (fun hI => hw _ hI) rfl rfl rfl ?_; rintro v w ⟨rfl, f1, hm⟩ hS; replace hS := hS _ hm; clear hm) | (refine WL.callL (D := [rfC dk D1 f1]) hS Pu rfl rfl (fun hI => hy _ _ hI) rfl rfl rfl ?_; rintro v w ⟨rfl, f2, hm⟩ hS; replace hS := hS _ hm; clear hm) | (refine WL.callL (D := [rfC dk D2 f2]) hS Pu rfl rfl (fun hI => hr _ _ hI) rfl rfl rfl ?_; rintro v w ⟨rfl, f3, hm⟩ hS; replace hS := hS _ hm; clear hm)) | (show WC _ _ _ _ _ _; first | refine WC.seq ?_ | refine WC.region ?_ | refine WC.ret ?_ | refine WC.condT rfl (by decide) ?_) | refine seqQ_n ?_)
      exact fin1r rfl rfl ⟨rfl, _, hS.mutLp Pu⟩
    · rw [if_pos h2]
      subst h1
      repeat' (first | (show WL _ _ _ _ _ _ _; first | refine WL.pure rfl rfl rfl rfl ?_ | refine WL.nil ?_ | (refine WL.cat rfl rfl rfl (by show _ + 2 ≤ _; omega) rfl rfl rfl ?_; rw [hpt]) | (refine WL.callL (D := [rfC dk D fp]) hS Pu rfl rfl (fun hI => hw _ hI) rfl rfl rfl ?_; rintro v w ⟨rfl, f1, hm⟩ hS; replace hS := hS _ hm; clear hm) | (refine WL.callL (D := [rfC dk D1 f1]) hS Pu rfl rfl (fun hI => hy _ _ hI) rfl rfl rfl ?_; rintro v w ⟨rfl, f2, hm⟩ hS; replace hS := hS _ hm; clear hm)) | (show WC _ _ _ _ _ _; first | refine WC.seq ?_ | refine WC.region ?_ | refine WC.skip ?_ | refine WC.ret ?_ | refine WC.condT rfl (by decide) ?_ | refine WC.condF rfl (decide_eq_false (by first | with_reducible assumption | omega)) ?_) | refine seqQ_n ?_)
      exact fin1r rfl rfl ⟨rfl, _, hS.mutLp Pu⟩
  · rw [if_pos h1]
    repeat' (first | (show WL _ _ _ _ _ _ _; first | refine WL.pure rfl rfl rfl rfl ?_ | refine WL.nil ?_ | (refine WL.cat rfl rfl rfl (by show _ + 2 ≤ _; omega) rfl rfl rfl ?_; rw [hpt]) | (refine WL.callL (D := [rfC dk D fp]) hS Pu rfl rfl (fun hI => hw _ hI) rfl rfl rfl ?_; rintro v w ⟨rfl, f1, hm⟩ hS; replace hS := hS _ hm; clear hm)) | (show WC _ _ _ _ _ _; first | refine WC.seq ?_ | refine WC.region ?_ | refine WC.skip ?_ | refine WC.ret ?_ | refine WC.condF rfl (decide_eq_false (by first | with_reducible assumption | omega)) ?_) | refine seqQ_n ?_)
    exact fin1r rfl rfl ⟨rfl, _, hS.mutLp Pu⟩
def rlφ (L dk : Nat) (G : Lg) (D : List Chunk) : Prop := ∃ A cap, D = [.box L 60 [.pointer (some ⟨dk, 0, none⟩), str G.p, .slice A G.recs.length cap, .bool G.dmg], .own (.slice A G.recs.length cap) 9 1 G.recs.length (strs G.recs)]
abbrev rlC (L dk : Nat) (G : Lg) (fp : List Nat) : Chunk := objC (rlφ L dk G) fp
set_option maxHeartbeats 8000000 in
set_option maxRecDepth 100000 in
theorem rlreset_c {L dk : Nat} {D : Dk} {G : Lg} {fp fq : List Nat} {w0 : World} (hi : InL w0 [rlC L dk G fp, rfC dk D fq]) (hp : G.p.length ≤ 1099511620) (hn : D.items.length ≤ 1048570) (hno : D.Sm 1099511627776) :
    Cal Tryz.prog 18 [.pointer (some ⟨L, 0, none⟩)] w0
      (fun v w' => v = .int .i64 (D.fill G.p []).1 ∧ ∃ fp' fq', MutL w0 w' [rlC L dk G fp, rfC dk D fq] [rlC L dk (G.reset (D.fill G.p []).1) fp', rfC dk (D.fill G.p []).2 fq']) := by
  refine Cal.mkL hi (by kernel_rfl) Tryz.func18 rfl rfl fun hS => ?_
  obtain ⟨_, ⟨A, cap, rfl⟩, hfp, hS⟩ := St.objOpen hS
  replace hS : St w0 _ w0 [.box L 60 [.pointer (some ⟨dk, 0, none⟩), str G.p, .slice A G.recs.length cap, .bool G.dmg], .own (.slice A G.recs.length cap) 9 1 G.recs.length (strs G.recs), rfC dk D fq] _ := hS
  have hf := fun (w : World) (hI : InL w [rfC dk D fq]) => rffill_c G.p [] hI hp hn hno (by simp)
  generalize D.fill G.p [] = r at *
  obtain ⟨e, D1⟩ := r
  dsimp only at hf ⊢
  by_cases he : e = 0
  · have hR : G.reset e = { G with recs := [] } := by unfold Lg.reset; rw [if_pos he]
    rw [hR]
    repeat' (first | (show WL _ _ _ _ _ _ _; first | refine WL.pure rfl rfl rfl rfl ?_ | refine WL.nil ?_ | (refine WL.store hS rfl rfl rfl Sb rfl rfl rfl ?_; intro w hS)) | (show WC _ _ _ _ _ _; first | refine WC.seq ?_ | refine WC.region ?_ | refine WC.ret ?_ | (show WC _ _ (Code.region _ (List.toArray [_, _, _, _, _, _, _, _, _, _]) true) _ _ _; refine WC.drawL [rfC dk D fq] hS Pu [0,1,2,3,4,5,6,7,9] [0,1,2,3,4,5,6,7,8,9] (by kernel_rfl) (by kernel_rfl) ?_; clear hS; intro w hS hM) | refine WC.condT rfl (decide_eq_true (by first | with_reducible assumption | omega)) ?_) | (show WD _ _ _ _ _ _ _ _ _; first | refine WD.pure rfl rfl rfl rfl rfl ?_ | refine WD.nil ?_ | refine WD.load rfl rfl (LdOk.box Mm rfl) rfl rfl rfl rfl ?_ | (refine WD.callL (D := [rfC dk D fq]) hS Pu (.refl _ _) rfl rfl (fun hI => hf _ hI) rfl rfl rfl rfl rfl ?_; rintro v w ⟨rfl, f1, hm⟩; refine ⟨_, hm, fun hS hM => ?_⟩; clear hm)) | refine seqQ_n ?_)
    have hS := hS.nilRow 9 1
    have hS := St.objClose (φ := rlφ L dk { G with recs := [] }) (hS.pulls (D := [.box L 60 [.pointer (some ⟨dk, 0, none⟩), str G.p, .slice none 0 0, .bool G.dmg], .own (.slice none 0 0) 9 1 0 []]) Pu) ⟨none, 0, rfl⟩
    exact fin1r rfl rfl ⟨rfl, _, _, hS.mutLp Pu⟩
  · have hR : G.reset e = G := by unfold Lg.reset; rw [if_neg he]
    rw [hR]
    repeat' (first | (show WL _ _ _ _ _ _ _; first | refine WL.pure rfl rfl rfl rfl ?_ | refine WL.nil ?_) | (show WC _ _ _ _ _ _; first | refine WC.seq ?_ | refine WC.region ?_ | refine WC.skip ?_ | refine WC.ret ?_ | (show WC _ _ (Code.region _ (List.toArray [_, _, _, _, _, _, _, _, _, _]) true) _ _ _; refine WC.drawL [rfC dk D fq] hS Pu [0,1,2,3,4,5,6,7,9] [0,1,2,3,4,5,6,7,8,9] (by kernel_rfl) (by kernel_rfl) ?_; clear hS; intro w hS hM) | refine WC.condF rfl (decide_eq_false (by first | with_reducible assumption | omega)) ?_) | (show WD _ _ _ _ _ _ _ _ _; first | refine WD.pure rfl rfl rfl rfl rfl ?_ | refine WD.nil ?_ | refine WD.load rfl rfl (LdOk.box Mm rfl) rfl rfl rfl rfl ?_ | (refine WD.callL (D := [rfC dk D fq]) hS Pu (.refl _ _) rfl rfl (fun hI => hf _ hI) rfl rfl rfl rfl rfl ?_; rintro v w ⟨rfl, f1, hm⟩; refine ⟨_, hm, fun hS hM => ?_⟩; clear hm)) | refine seqQ_n ?_)
    have hS := St.objClose (φ := rlφ L dk G) (hS.pulls (D := [.box L 60 [.pointer (some ⟨dk, 0, none⟩), str G.p, .slice A G.recs.length cap, .bool G.dmg], .own (.slice A G.recs.length cap) 9 1 G.recs.length (strs G.recs)]) Pu) ⟨A, cap, rfl⟩
    exact fin1r rfl rfl ⟨rfl, _, _, hS.mutLp Pu⟩
set_option maxHeartbeats 8000000 in
set_option maxRecDepth 100000 in
theorem rladd_c {L dk : Nat} {D D' : Dk} {G G' : Lg} {fp fq : List Nat} {w0 : World} {e : Int} (r : List UInt8) (hi : InL w0 [rlC L dk G fp, rfC dk D fq]) (hu : walAdd G D r = (e, G', D')) (hp : G.p.length ≤ 1099511620) (hn : D.items.length ≤ 1048570)
    (hr : r.length ≤ 1073741824) (hd : (D.at G.p).data.length ≤ 549755813888) (hnr : G.recs.length ≤ 4194304) :
    Cal Tryz.prog 16 [.pointer (some ⟨L, 0, none⟩), str r] w0
      (fun v w' => v = .int .i64 e ∧ ∃ fp' fq', MutL w0 w' [rlC L dk G fp, rfC dk D fq] [rlC L dk G' fp', rfC dk D' fq']) := by
  refine Cal.mkL hi (by kernel_rfl) Tryz.func16 rfl rfl fun hS => ?_
  obtain ⟨_, ⟨A, cap, rfl⟩, hfp, hS⟩ := St.objOpen hS
  replace hS : St w0 _ w0 [.box L 60 [.pointer (some ⟨dk, 0, none⟩), str G.p, .slice A G.recs.length cap, .bool G.dmg], .own (.slice A G.recs.length cap) 9 1 G.recs.length (strs G.recs), rfC dk D fq] _ := hS
  have hpl := packE_len r
  have hpn := putN_len10 (n := r.length) (by omega)
  have hA := fun (w : World) (hI : InL w [rfC dk D fq]) => rfappend_c G.p (packE r) hI (by omega) (by omega) (by omega)
  have hn1 := append_le D G.p (packE r)
  rcases h1 : D.append G.p (packE r) with ⟨e1, D1⟩
  rw [h1] at hA hn1
  dsimp only at hA hn1
  have hY := fun (f : List Nat) (w : World) (hI : InL w [rfC dk D1 f]) => rfsync_c G.p hI (by omega) (by omega)
  rcases h2 : D1.sync G.p with ⟨e2, D2⟩
  rw [h2] at hY
  dsimp only at hY
  have hu : (if e1 ≠ 0 then (e1, G, D1) else if e2 ≠ 0 then (e2, G, D2) else (0, G.push r, D2)) = (e, G', D') := by
    rw [← hu]; unfold walAdd; rw [h1]; dsimp only; rw [h2]
  clear h1 h2
  repeat' (first | (show WL _ _ _ _ _ _ _; first | refine WL.pure rfl rfl rfl rfl ?_ | refine WL.nil ?_ | refine WL.load hS rfl rfl (LdOk.box Mm rfl) rfl rfl rfl ?_ | (refine WL.app hS rfl rfl rfl rfl (RdOk.box Mm) rfl rfl (fun A' cap' => Rp) (by omega) rfl rfl rfl ?_; intro A' cap' w hS) | (refine WL.store hS rfl rfl rfl Sb rfl rfl rfl ?_; intro w hS) | (refine WL.slit hS rfl rfl rfl rfl rfl ?_; intro w b hS)) | (show WC _ _ _ _ _ _; first | refine WC.seq ?_ | refine WC.region ?_ | refine WC.skip ?_ | refine WC.ret ?_ | (show WC _ _ (Code.region _ (List.toArray [_, _, _, _, _, _, _, _, _, _, _, _]) true) _ _ _; refine WC.drawL [rfC dk D fq] hS Pu [0,1,2,3,4,5,6,7,8,11] [0,1,2,3,4,5,6,7,8,9,10,11] (by kernel_rfl) (by kernel_rfl) ?_; clear hS; intro w hS hM) | (show WC _ _ (Code.region _ (List.toArray [_, _, _, _, _, _, _, _, _, _]) true) _ _ _; refine WC.drawL [rfC dk D1 f1] hS Pu [0,1,2,3,4,5,6,7,9] [0,1,2,3,4,5,6,7,8,9] (by kernel_rfl) (by kernel_rfl) ?_; clear hS; intro w hS hM) | refine WC.condF rfl (decide_eq_false (by first | with_reducible assumption | omega)) ?_ | (refine WC.cond rfl (fun h => ?_) (fun h => ?_) <;> (try simp only [ZZ0, ZZ1, ZZ2, ZZ3, ZZ4, ZZ5, ZZ6, ZZ7, ZZ8, ZZ9, ZZ10, ZZ11, ZZ12, ZZ13, ZZ14, ZZ15] at h) <;> (try (exfalso; first | omega | contradiction)))) | (show WD _ _ _ _ _ _ _ _ _; first | refine WD.pure rfl rfl rfl rfl rfl ?_ | refine WD.nil ?_ | refine WD.load rfl rfl (LdOk.box Mm rfl) rfl rfl rfl rfl ?_ | (refine WD.calls hS hM rfl rfl (rpack_c r _ (by omega)) rfl rfl rfl rfl rfl ?_; clear hS; rintro v w rfl hS) | (refine WD.callL (D := [rfC dk D fq]) hS Pu (.refl _ _) rfl rfl (fun hI => hA _ hI) rfl rfl rfl rfl rfl ?_; rintro v w ⟨rfl, f1, hm⟩; refine ⟨_, hm, fun hS hM => ?_⟩; clear hm) | (refine WD.callL (D := [rfC dk D1 f1]) hS Pu (.refl _ _) rfl rfl (fun hI => hY _ _ hI) rfl rfl rfl rfl rfl ?_; rintro v w ⟨rfl, f2, hm⟩; refine ⟨_, hm, fun hS hM => ?_⟩; clear hm)) | refine seqQ_n ?_)
  · rw [if_neg (fun hh => hh (by assumption)), if_neg (fun hh => hh (by assumption))] at hu
    cases hu
    have hS := St.objClose (φ := rlφ L dk (G.push r)) (hS.pulls (D := [.box L 60 [.pointer (some ⟨dk, 0, none⟩), str G.p, .slice A' (G.recs.length + 1) cap', .bool G.dmg], .own (.slice A' (G.recs.length + 1) cap') 9 1 (G.recs.length + 1) (strs G.recs ++ [str r])]) Pu) ⟨A', cap', by simp [Lg.push, strs_snoc]⟩
    exact fin1r rfl rfl ⟨vint (by assumption), _, _, hS.mutLp Pu⟩
  · rw [if_neg (fun hh => hh (by assumption)), if_pos h] at hu
    cases hu
    have hS := St.objClose (φ := rlφ L dk G) (hS.pulls (D := [.box L 60 [.pointer (some ⟨dk, 0, none⟩), str G.p, .slice A G.recs.length cap, .bool G.dmg], .own (.slice A G.recs.length cap) 9 1 G.recs.length (strs G.recs)]) Pu) ⟨A, cap, rfl⟩
    exact fin1r rfl rfl ⟨rfl, _, _, hS.mutLp Pu⟩
  · rw [if_pos h] at hu
    cases hu
    have hS := St.objClose (φ := rlφ L dk G) (hS.pulls (D := [.box L 60 [.pointer (some ⟨dk, 0, none⟩), str G.p, .slice A G.recs.length cap, .bool G.dmg], .own (.slice A G.recs.length cap) 9 1 G.recs.length (strs G.recs)]) Pu) ⟨A, cap, rfl⟩
    exact fin1r rfl rfl ⟨rfl, _, _, hS.mutLp Pu⟩
end Go.Proofs.YtccfiohagbneaaaGreatDoor

/- What is proved: what the reference's journal does: Open. Conditions: a disk without limits, of bounded size. -/
namespace Go.Proofs.YtccfiohagbneaaaGreatDoor
open Go Go.J Go.RowKit
def RfIs (dk : Nat) (D : Dk) (w : World) : Prop := ∃ A cap l, RepL l D.items ∧ RfAt dk A cap l D w
theorem St.rfIs {w0 w : World} {M fp : List Nat} {H H' : List Chunk} {Z : List Snap} {dk : Nat} {D : Dk} (hS : St w0 M w H Z) (hp : Pulls [rfC dk D fp] H H') : RfIs dk D w := by
  have hS := hS.pulls hp
  obtain ⟨_, ⟨A, cap, l, hR, rfl⟩, hfp, hS⟩ := St.objOpen hS
  exact ⟨A, cap, l, hR, St.rfAt hS Mm Mm⟩
theorem rfkindI_c {dk : Nat} {D : Dk} (p : List UInt8) {w0 : World} (h : RfIs dk D w0) (hn : D.items.length ≤ 1048576) : Cal Tryz.prog 63 [.pointer (some ⟨dk, 0, none⟩), str p] w0 (fun v w' => Upd [] w0 w' ∧ v = .int .i64 (D.kind p)) := by
  obtain ⟨A, cap, l, hR, hA⟩ := h
  exact rfkind_c p hR hA (by rw [hR.len]; exact hn)
theorem rfreadI_c {dk : Nat} {D : Dk} (p : List UInt8) {w0 : World} (h : RfIs dk D w0) (hn : D.items.length ≤ 1048576) : Cal Tryz.prog 28 [.pointer (some ⟨dk, 0, none⟩), str p] w0 (fun v w' => Upd [] w0 w' ∧ v = .tuple #[str (D.read p).1, .int .i64 (D.read p).2]) := by
  obtain ⟨A, cap, l, hR, hA⟩ := h
  exact rfread_c p hR hA (by rw [hR.len]; exact hn)
def rlopenR (dk : Nat) (D : Dk) (fq : List Nat) (w0 : World) (r : Int × Option Lg × Dk) (v : Value) (w' : World) : Prop :=
  match r with
  | (e, none, D') => v = .tuple #[.pointer none, .int .i64 e] ∧ ∃ fq', MutL w0 w' [rfC dk D fq] [rfC dk D' fq']
  | (e, some G, D') => ∃ L fp fq', v = .tuple #[.pointer (some ⟨L, 0, none⟩), .int .i64 e] ∧ MutL w0 w' [rfC dk D fq] [rlC L dk G fp, rfC dk D' fq']
set_option maxHeartbeats 16000000 in
set_option maxRecDepth 100000 in
theorem rlopen_c {dk : Nat} {D : Dk} {fq : List Nat} (p : List UInt8) {w0 : World} (hi : InL w0 [rfC dk D fq]) (hl : p.length ≤ 1099511620) (hno : D.Sm 1099511627776) (hn : D.items.length ≤ 1048570) :
    Cal Tryz.prog 14 [.pointer (some ⟨dk, 0, none⟩), str p] w0 (rlopenR dk D fq w0 (walOpen D p)) := by
  refine Cal.mkL hi (by kernel_rfl) Tryz.func14 rfl rfl fun hS => ?_
  have hkc := fun (w : World) (h : RfIs dk D w) => rfkindI_c p h (by omega)
  have hrc := fun (w : World) (h : RfIs dk D w) => rfreadI_c p h (by omega)
  by_cases hk : D.kind p = 0
  · have hf := fun (w : World) (hI : InL w [rfC dk D fq]) => rffill_c p [] hI hl hn hno (by simp)
    rcases hfe : D.fill p [] with ⟨e, D'⟩
    rw [hfe] at hf
    have hu : walOpen D p = if e ≠ 0 then (e, none, D') else (0, some ⟨p, [], false⟩, D') := by unfold walOpen; rw [if_pos hk, hfe]
    rw [hu]
    rw [hk] at hkc
    dsimp only at hf
    by_cases he : e = 0
    · rw [if_neg (fun x => x he)]
      subst he
      repeat' (first | (show WL _ _ _ _ _ _ _; first | refine WL.pure rfl rfl rfl rfl ?_ | refine WL.nil ?_ | (refine WL.calls hS rfl rfl (hkc _ (St.rfIs hS Pu)) rfl rfl rfl ?_; rintro v w rfl hS) | (refine WL.callL (D := [rfC dk D fq]) hS Pu rfl rfl (fun hI => hf _ hI) rfl rfl rfl ?_; rintro v w ⟨rfl, f1, hm⟩ hS; replace hS := hS _ hm; clear hm) | (refine WL.box hS rfl rfl rfl rfl rfl ?_; intro w b hS) | refine WL.build rfl rfl rfl rfl rfl ?_) | (show WC _ _ _ _ _ _; first | refine WC.seq ?_ | refine WC.region ?_ | refine WC.skip ?_ | refine WC.ret ?_ | refine WC.condT rfl (by decide) ?_ | refine WC.condF rfl (by decide) ?_) | refine seqQ_n ?_ | refine seqQ_r ?_)
      have hS := hS.nilRow 9 1
      have hS := St.objClose (φ := rlφ b dk ⟨p, [], false⟩) (hS.pulls (D := [.box b 60 [.pointer (some ⟨dk, 0, none⟩), str p, .slice none 0 0, .bool false], .own (.slice none 0 0) 9 1 0 []]) Pu) ⟨none, 0, rfl⟩
      exact fin2r rfl rfl rfl ⟨_, _, _, rfl, hS.mutLp Pu⟩
    · rw [if_pos he]
      repeat' (first | (show WL _ _ _ _ _ _ _; first | refine WL.pure rfl rfl rfl rfl ?_ | refine WL.nil ?_ | (refine WL.calls hS rfl rfl (hkc _ (St.rfIs hS Pu)) rfl rfl rfl ?_; rintro v w rfl hS) | (refine WL.callL (D := [rfC dk D fq]) hS Pu rfl rfl (fun hI => hf _ hI) rfl rfl rfl ?_; rintro v w ⟨rfl, f1, hm⟩ hS; replace hS := hS _ hm; clear hm) | (refine WL.box hS rfl rfl rfl rfl rfl ?_; intro w b hS) | refine WL.build rfl rfl rfl rfl rfl ?_) | (show WC _ _ _ _ _ _; first | refine WC.seq ?_ | refine WC.region ?_ | refine WC.ret ?_ | refine WC.condT rfl (by decide) ?_ | refine WC.condT rfl (decide_eq_true (by first | with_reducible assumption | omega)) ?_) | refine seqQ_n ?_ | refine seqQ_r ?_)
      exact fin2r rfl rfl rfl ⟨rfl, _, hS.mutLp Pu⟩
  · have hsm := hno.at_ p
    rcases hr : D.read p with ⟨s, er⟩
    have hsl : s.length ≤ 1099511627776 := by
      have : s = (D.read p).1 := by rw [hr]
      rw [this]
      unfold Dk.read
      repeat' split
      all_goals first | exact Nat.zero_le _ | exact hsm
    rcases hsc : scanE s with ⟨rs, g, e⟩
    have hg : g ≤ s.length := by have := scanE_le s; rwa [hsc] at this
    have hf := fun (w : World) (hI : InL w [rfC dk D fq]) => rffill_c p (s.take g) hI hl hn hno (by rw [List.length_take]; omega)
    rcases hfe : D.fill p (s.take g) with ⟨ef, D'⟩
    rw [hfe] at hf
    dsimp only at hf
    have hu : walOpen D p = if er ≠ 0 then (er, none, D) else if e ≠ 0 then (if ef ≠ 0 then (ef, none, D') else (0, some ⟨p, rs, decide (e = 6 ∨ e = 3)⟩, D')) else (0, some ⟨p, rs, decide (e = 6 ∨ e = 3)⟩, D) := by
      unfold walOpen; rw [if_neg hk, hr]; dsimp only; rw [hsc]; dsimp only; rw [hfe]
    rw [hu]
    rw [hr] at hrc
    dsimp only at hrc
    generalize D.kind p = kd at *
    clear hu hr hfe hsm
    by_cases h0 : er = 0
    · subst h0
      rw [if_neg (by decide)]
      have hcases : (e = 6 ∧ decide (e = 6 ∨ e = 3) = true) ∨ (e = 3 ∧ decide (e = 6 ∨ e = 3) = true) ∨ (e = 0 ∧ decide (e = 6 ∨ e = 3) = false) ∨ (e ≠ 6 ∧ e ≠ 3 ∧ e ≠ 0 ∧ decide (e = 6 ∨ e = 3) = false) := by
        by_cases h6 : e = 6
        · exact .inl ⟨h6, by simp [h6]⟩
        · by_cases h3 : e = 3
          · exact .inr (.inl ⟨h3, by simp [h3]⟩)
          · by_cases hz : e = 0
            · exact .inr (.inr (.inl ⟨hz, by simp [hz]⟩))
            · exact .inr (.inr (.inr ⟨h6, h3, hz, by simp [h6, h3]⟩))
      have hfs := fun (w : World) => rscan_c s w hsl
      rw [hsc] at hfs
      dsimp only at hfs
      clear hsc
      rcases hcases with ⟨rfl, hd⟩ | ⟨rfl, hd⟩ | ⟨rfl, hd⟩ | ⟨h6, h3, hz, hd⟩
      all_goals rw [hd]; clear hd
      all_goals
        repeat' (first | (show WL _ _ _ _ _ _ _; first | refine WL.pure rfl rfl rfl rfl ?_ | refine WL.nil ?_ | (refine WL.calls hS rfl rfl (hkc _ (St.rfIs hS Pu)) rfl rfl rfl ?_; rintro v w rfl hS) | (refine WL.calls hS rfl rfl (hrc _ (St.rfIs hS Pu)) rfl rfl rfl ?_; rintro v w rfl hS) | (refine WL.callG rfl rfl (hfs _) rfl rfl rfl ?_; rintro v w ⟨hupd, A, cap, rfl, hnew⟩; replace hS := hS.new hupd hnew; clear hnew hupd) | (refine WL.highS (j := g) rfl rfl rfl rfl hg rfl rfl rfl ?_) | (refine WL.callL (D := [rfC dk D fq]) hS Pu rfl rfl (fun hI => hf _ hI) rfl rfl rfl ?_; rintro v w ⟨rfl, f1, hm⟩ hS; replace hS := hS _ hm; clear hm) | (refine WL.store hS rfl rfl rfl Sb rfl rfl rfl ?_; intro w hS) | (refine WL.box hS rfl rfl rfl rfl rfl ?_; intro w b hS) | refine WL.skip rfl rfl rfl ?_ | refine WL.build rfl rfl rfl rfl rfl ?_ | ((fail_if_success (refine WL.wanted rfl ?_)); refine WL.guard rfl rfl rfl (fun h => ?_) (fun h => ?_) <;> (try simp only [ZZ0, ZZ1, ZZ2, ZZ3, ZZ4, ZZ5, ZZ6, ZZ7, ZZ8, ZZ9, ZZ10, ZZ11, ZZ12, ZZ13, ZZ14, ZZ15] at h) <;> (try (exfalso; first | omega | contradiction)))) | (show WC _ _ _ _ _ _; first | refine WC.seq ?_ | refine WC.region ?_ | refine WC.skip ?_ | refine WC.ret ?_ | refine WC.condT rfl (by decide) ?_ | refine WC.condF rfl (by decide) ?_ | refine WC.condT rfl (decide_eq_true (by first | with_reducible assumption | omega)) ?_ | refine WC.condF rfl (decide_eq_false (by first | with_reducible assumption | omega)) ?_ | (refine WC.cond rfl (fun h => ?_) (fun h => ?_) <;> (try simp only [ZZ0, ZZ1, ZZ2, ZZ3, ZZ4, ZZ5, ZZ6, ZZ7, ZZ8, ZZ9, ZZ10, ZZ11, ZZ12, ZZ13, ZZ14, ZZ15] at h) <;> (try (exfalso; first | omega | contradiction)))) | refine seqQ_n ?_ | refine seqQ_r ?_)
      all_goals first
        | rw [if_pos (by first | decide | assumption), if_pos h]
          exact fin2r rfl rfl rfl ⟨rfl, _, hS.mutLp Pu⟩
        | (first | rw [if_pos (by first | decide | assumption), if_neg (fun hh => hh h)] | rw [if_neg (by decide)])
          try rw [decide_eq_false h3] at hS
          have hS := St.objClose (φ := rlφ b dk ⟨p, rs, _⟩) (hS.pulls (D := [.box b 60 [.pointer (some ⟨dk, 0, none⟩), str p, .slice A rs.length cap, .bool _], .own (.slice A rs.length cap) 9 1 rs.length (strs rs)]) Pu) ⟨A, cap, rfl⟩
          exact fin2r rfl rfl rfl ⟨_, _, _, rfl, hS.mutLp Pu⟩
    · rw [if_pos h0]
      repeat' (first | (show WL _ _ _ _ _ _ _; first | refine WL.pure rfl rfl rfl rfl ?_ | refine WL.nil ?_ | (refine WL.calls hS rfl rfl (hkc _ (St.rfIs hS Pu)) rfl rfl rfl ?_; rintro v w rfl hS) | (refine WL.calls hS rfl rfl (hrc _ (St.rfIs hS Pu)) rfl rfl rfl ?_; rintro v w rfl hS) | (refine WL.box hS rfl rfl rfl rfl rfl ?_; intro w b hS) | refine WL.build rfl rfl rfl rfl rfl ?_) | (show WC _ _ _ _ _ _; first | refine WC.seq ?_ | refine WC.region ?_ | refine WC.skip ?_ | refine WC.ret ?_ | refine WC.condT rfl (decide_eq_true (by first | with_reducible assumption | omega)) ?_ | refine WC.condF rfl (decide_eq_false (by first | with_reducible assumption | omega)) ?_) | refine seqQ_n ?_ | refine seqQ_r ?_)
      exact fin2r rfl rfl rfl ⟨rfl, _, hS.mutLp Pu⟩
end Go.Proofs.YtccfiohagbneaaaGreatDoor
