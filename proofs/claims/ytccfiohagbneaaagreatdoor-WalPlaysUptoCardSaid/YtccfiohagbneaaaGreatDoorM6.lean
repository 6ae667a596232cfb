/- What is proved: contracts and plain facts that the law leans on (texts put together). Conditions: as each names them. -/
import Derived.Test.YtccfiohagbneaaaGreatDoorM5
import Derived.Shelf.SlIter.Nil
import Derived.Shelf.SortM.Plain
import Derived.Shelf.SortM.SortNone
import Derived.Shelf.Strconv.Atoi
import Derived.Shelf.Strconv.Itoa3
import Derived.Shelf.Small.Strs
import Derived.Test.YtccfiohagbneaaaGreatDoorProg
import Derived.Lib.LaidTab
import Derived.Stop.LaidErr
set_option linter.unusedSimpArgs false
set_option linter.unusedVariables false
/-
  DERIVED: THE SHELF's CONTRACTS AT THIS DUMP, IN PLAIN WORDS (tools/lay-plain.mjs out of 'TryzShelf.lean', which tools/lay-shelf.mjs wrote): THE SAME DECLARATIONS UNDER THE SAME NAMES: 'import', 'namespace', 'open', 'def', 'theorem' AND NOTHING ELSE: no command of the shelf's: FOR A HAND-IN. Each laying: the table of numbers ('.._ren') and one theorem, a field a fact of the dump's own or the kernel's comparison; each contract: ONE APPLICATION.
-/
namespace Go.Proofs
open Go.Shelf
def Tryz.keysL_ren : Go.Shelf.Ren := ⟨fun | 7 => 76 | 10 => 139 | n => n, fun | 23 => 119 | 26 => 9 | 3 => 128 | 28 => 125 | 0 => 0 | 27 => 124 | 33 => 107 | 4 => 4 | n => n, fun | n => n⟩
theorem Tryz.keysL : Go.Proofs.SlLaysZ.n7 Tryz.prog Tryz.keysL_ren := {
  mixed := by kernel_rfl
  f7 := ⟨Tryz.f76.name, by decide, Tryz.func76.trans (congrArg some (by kernel_rfl))⟩
  f10 := ⟨Tryz.f139.name, by decide, Tryz.func139.trans (congrArg some (by kernel_rfl))⟩
  t0 := Tryz.underlying0
  a0 := Tryz.isAgg0
  z0 := Tryz.sizeOf0
  v0 := Tryz.zeroValue0
  t4 := Tryz.underlying4
  a4 := Tryz.isAgg4
  z4 := Tryz.sizeOf4
  v4 := Tryz.zeroValue4
  t23 := Tryz.underlying119
  a23 := Tryz.isAgg119
  z23 := Tryz.sizeOf119
  v23 := Tryz.zeroValue119
  t26 := Tryz.underlying9
  a26 := Tryz.isAgg9
  z26 := Tryz.sizeOf9
  v26 := Tryz.zeroValue9
  t27 := Tryz.underlying124
  a27 := Tryz.isAgg124
  z27 := Tryz.sizeOf124
  v27 := Tryz.zeroValue124
  t28 := Tryz.underlying125
  a28 := Tryz.isAgg125
  z28 := Tryz.sizeOf125
  v28 := Tryz.zeroValue125
  t33 := Tryz.underlying107
  a33 := Tryz.isAgg107
  z33 := Tryz.sizeOf107
  v33 := Tryz.zeroValue107 }
def Tryz.sortedL_ren : Go.Shelf.Ren := ⟨fun | 6 => 75 | 8 => 137 | 9 => 138 | 11 => 179 | 13 => 181 | 12 => 180 | 23 => 211 | 24 => 212 | 14 => 202 | 15 => 203 | 16 => 204 | 17 => 205 | 18 => 206 | 19 => 207 | 20 => 208 | 21 => 209 | 22 => 210 | 25 => 226 | 26 => 227 | 27 => 228 | 28 => 229 | 29 => 230 | 30 => 231 | 31 => 240 | n => n, fun | 26 => 9 | 28 => 125 | 24 => 56 | 0 => 0 | 3 => 3 | 37 => 190 | 48 => 188 | 50 => 129 | 4 => 4 | 40 => 261 | 39 => 260 | 45 => 193 | 5 => 5 | 9 => 9 | 51 => 276 | 55 => 280 | 57 => 288 | 58 => 289 | 33 => 107 | n => n, fun | n => n⟩
theorem Tryz.sortedL : Go.Proofs.SlLaysZ.n6 Tryz.prog Tryz.sortedL_ren := {
  mixed := by kernel_rfl
  f6 := ⟨Tryz.f75.name, by decide, Tryz.func75.trans (congrArg some (by kernel_rfl))⟩
  f8 := ⟨Tryz.f137.name, by decide, Tryz.func137.trans (congrArg some (by kernel_rfl))⟩
  f11 := ⟨Tryz.f179.name, by decide, Tryz.func179.trans (congrArg some (by kernel_rfl))⟩
  t0 := Tryz.underlying0
  a0 := Tryz.isAgg0
  z0 := Tryz.sizeOf0
  v0 := Tryz.zeroValue0
  t24 := Tryz.underlying56
  a24 := Tryz.isAgg56
  z24 := Tryz.sizeOf56
  v24 := Tryz.zeroValue56
  t26 := Tryz.underlying9
  a26 := Tryz.isAgg9
  z26 := Tryz.sizeOf9
  v26 := Tryz.zeroValue9
  t28 := Tryz.underlying125
  a28 := Tryz.isAgg125
  z28 := Tryz.sizeOf125
  v28 := Tryz.zeroValue125
  i26 := by kernel_rfl }
def Tryz.sortL_ren : Go.Shelf.Ren := ⟨fun | 6 => 138 | 8 => 181 | 9 => 180 | 19 => 211 | 20 => 212 | 21 => 202 | 22 => 203 | 23 => 204 | 24 => 205 | 25 => 206 | 26 => 207 | 27 => 208 | 28 => 209 | 29 => 210 | 36 => 226 | 31 => 227 | 32 => 228 | 37 => 229 | 38 => 230 | 39 => 231 | 41 => 240 | n => n, fun | 27 => 56 | 29 => 9 | 3 => 3 | 32 => 190 | 26 => 56 | 0 => 0 | 44 => 188 | 46 => 129 | 4 => 4 | 36 => 261 | 35 => 260 | 41 => 193 | 5 => 5 | 9 => 9 | 53 => 276 | 57 => 280 | 63 => 288 | 64 => 289 | n => n, fun | n => n⟩
theorem Tryz.sortL : Go.Proofs.SlLaysM.n6 Tryz.prog Tryz.sortL_ren := {
  mixed := by kernel_rfl
  f6 := ⟨Tryz.f138.name, by decide, Tryz.func138.trans (congrArg some (by kernel_rfl))⟩
  f8 := Tryz.func181.trans (congrArg some (by kernel_rfl))
  f9 := ⟨Tryz.f180.name, by decide, Tryz.func180.trans (congrArg some (by kernel_rfl))⟩
  f19 := Tryz.func211.trans (congrArg some (by kernel_rfl))
  f20 := Tryz.func212.trans (congrArg some (by kernel_rfl))
  f21 := ⟨Tryz.f202.name, by decide, Tryz.func202.trans (congrArg some (by kernel_rfl))⟩
  f22 := ⟨Tryz.f203.name, by decide, Tryz.func203.trans (congrArg some (by kernel_rfl))⟩
  f23 := ⟨Tryz.f204.name, by decide, Tryz.func204.trans (congrArg some (by kernel_rfl))⟩
  f24 := ⟨Tryz.f205.name, by decide, Tryz.func205.trans (congrArg some (by kernel_rfl))⟩
  f25 := ⟨Tryz.f206.name, by decide, Tryz.func206.trans (congrArg some (by kernel_rfl))⟩
  f26 := ⟨Tryz.f207.name, by decide, Tryz.func207.trans (congrArg some (by kernel_rfl))⟩
  f27 := ⟨Tryz.f208.name, by decide, Tryz.func208.trans (congrArg some (by kernel_rfl))⟩
  f28 := ⟨Tryz.f209.name, by decide, Tryz.func209.trans (congrArg some (by kernel_rfl))⟩
  f29 := ⟨Tryz.f210.name, by decide, Tryz.func210.trans (congrArg some (by kernel_rfl))⟩
  f31 := Tryz.func227.trans (congrArg some (by kernel_rfl))
  f32 := Tryz.func228.trans (congrArg some (by kernel_rfl))
  f36 := ⟨Tryz.f226.name, by decide, Tryz.func226.trans (congrArg some (by kernel_rfl))⟩
  f37 := ⟨Tryz.f229.name, by decide, Tryz.func229.trans (congrArg some (by kernel_rfl))⟩
  f38 := ⟨Tryz.f230.name, by decide, Tryz.func230.trans (congrArg some (by kernel_rfl))⟩
  f39 := ⟨Tryz.f231.name, by decide, Tryz.func231.trans (congrArg some (by kernel_rfl))⟩
  f41 := ⟨Tryz.f240.name, by decide, Tryz.func240.trans (congrArg some (by kernel_rfl))⟩
  t0 := Tryz.underlying0
  a0 := Tryz.isAgg0
  z0 := Tryz.sizeOf0
  v0 := Tryz.zeroValue0
  t3 := Tryz.underlying3
  a3 := Tryz.isAgg3
  z3 := Tryz.sizeOf3
  v3 := Tryz.zeroValue3
  t4 := Tryz.underlying4
  a4 := Tryz.isAgg4
  z4 := Tryz.sizeOf4
  v4 := Tryz.zeroValue4
  t5 := Tryz.underlying5
  a5 := Tryz.isAgg5
  z5 := Tryz.sizeOf5
  v5 := Tryz.zeroValue5
  t9 := Tryz.underlying9
  a9 := Tryz.isAgg9
  z9 := Tryz.sizeOf9
  v9 := Tryz.zeroValue9
  t26 := Tryz.underlying56
  a26 := Tryz.isAgg56
  z26 := Tryz.sizeOf56
  v26 := Tryz.zeroValue56
  t27 := Tryz.underlying56
  a27 := Tryz.isAgg56
  z27 := Tryz.sizeOf56
  v27 := Tryz.zeroValue56
  t29 := Tryz.underlying9
  a29 := Tryz.isAgg9
  z29 := Tryz.sizeOf9
  v29 := Tryz.zeroValue9
  t32 := Tryz.underlying190
  a32 := Tryz.isAgg190
  z32 := Tryz.sizeOf190
  v32 := Tryz.zeroValue190
  t35 := Tryz.underlying260
  a35 := Tryz.isAgg260
  z35 := Tryz.sizeOf260
  v35 := Tryz.zeroValue260
  t36 := Tryz.underlying261
  a36 := Tryz.isAgg261
  z36 := Tryz.sizeOf261
  v36 := Tryz.zeroValue261
  t41 := Tryz.underlying193
  a41 := Tryz.isAgg193
  z41 := Tryz.sizeOf193
  v41 := Tryz.zeroValue193
  t44 := Tryz.underlying188
  a44 := Tryz.isAgg188
  z44 := Tryz.sizeOf188
  v44 := Tryz.zeroValue188
  t46 := Tryz.underlying129
  a46 := Tryz.isAgg129
  z46 := Tryz.sizeOf129
  v46 := Tryz.zeroValue129
  t53 := Tryz.underlying276
  a53 := Tryz.isAgg276
  z53 := Tryz.sizeOf276
  v53 := Tryz.zeroValue276
  t57 := Tryz.underlying280
  a57 := Tryz.isAgg280
  z57 := Tryz.sizeOf280
  v57 := Tryz.zeroValue280
  t63 := Tryz.underlying288
  a63 := Tryz.isAgg288
  z63 := Tryz.sizeOf288
  v63 := Tryz.zeroValue288
  t64 := Tryz.underlying289
  a64 := Tryz.isAgg289
  z64 := Tryz.sizeOf289
  v64 := Tryz.zeroValue289 }
def Tryz.keysVL_ren : Go.Shelf.Ren := ⟨fun | 7 => 98 | 10 => 155 | n => n, fun | 23 => 137 | 26 => 9 | 3 => 157 | 28 => 125 | 0 => 0 | 27 => 124 | 33 => 107 | 4 => 4 | n => n, fun | n => n⟩
theorem Tryz.keysVL : Go.Proofs.SlLaysZ.n7 Tryz.prog Tryz.keysVL_ren := {
  mixed := by kernel_rfl
  f7 := ⟨Tryz.f98.name, by decide, Tryz.func98.trans (congrArg some (by kernel_rfl))⟩
  f10 := ⟨Tryz.f155.name, by decide, Tryz.func155.trans (congrArg some (by kernel_rfl))⟩
  t0 := Tryz.underlying0
  a0 := Tryz.isAgg0
  z0 := Tryz.sizeOf0
  v0 := Tryz.zeroValue0
  t4 := Tryz.underlying4
  a4 := Tryz.isAgg4
  z4 := Tryz.sizeOf4
  v4 := Tryz.zeroValue4
  t23 := Tryz.underlying137
  a23 := Tryz.isAgg137
  z23 := Tryz.sizeOf137
  v23 := Tryz.zeroValue137
  t26 := Tryz.underlying9
  a26 := Tryz.isAgg9
  z26 := Tryz.sizeOf9
  v26 := Tryz.zeroValue9
  t27 := Tryz.underlying124
  a27 := Tryz.isAgg124
  z27 := Tryz.sizeOf124
  v27 := Tryz.zeroValue124
  t28 := Tryz.underlying125
  a28 := Tryz.isAgg125
  z28 := Tryz.sizeOf125
  v28 := Tryz.zeroValue125
  t33 := Tryz.underlying107
  a33 := Tryz.isAgg107
  z33 := Tryz.sizeOf107
  v33 := Tryz.zeroValue107 }
def Tryz.keysNL_ren : Go.Shelf.Ren := ⟨fun | 7 => 168 | 10 => 198 | n => n, fun | 23 => 227 | 26 => 9 | 3 => 94 | 28 => 125 | 0 => 0 | 27 => 124 | 33 => 107 | 4 => 4 | n => n, fun | n => n⟩
theorem Tryz.keysNL : Go.Proofs.SlLaysZ.n7 Tryz.prog Tryz.keysNL_ren := {
  mixed := by kernel_rfl
  f7 := ⟨Tryz.f168.name, by decide, Tryz.func168.trans (congrArg some (by kernel_rfl))⟩
  f10 := ⟨Tryz.f198.name, by decide, Tryz.func198.trans (congrArg some (by kernel_rfl))⟩
  t0 := Tryz.underlying0
  a0 := Tryz.isAgg0
  z0 := Tryz.sizeOf0
  v0 := Tryz.zeroValue0
  t4 := Tryz.underlying4
  a4 := Tryz.isAgg4
  z4 := Tryz.sizeOf4
  v4 := Tryz.zeroValue4
  t23 := Tryz.underlying227
  a23 := Tryz.isAgg227
  z23 := Tryz.sizeOf227
  v23 := Tryz.zeroValue227
  t26 := Tryz.underlying9
  a26 := Tryz.isAgg9
  z26 := Tryz.sizeOf9
  v26 := Tryz.zeroValue9
  t27 := Tryz.underlying124
  a27 := Tryz.isAgg124
  z27 := Tryz.sizeOf124
  v27 := Tryz.zeroValue124
  t28 := Tryz.underlying125
  a28 := Tryz.isAgg125
  z28 := Tryz.sizeOf125
  v28 := Tryz.zeroValue125
  t33 := Tryz.underlying107
  a33 := Tryz.isAgg107
  z33 := Tryz.sizeOf107
  v33 := Tryz.zeroValue107 }
def Tryz.itoaL_ren : Go.Shelf.Ren := ⟨fun | 171 => 157 | 243 => 187 | 246 => 215 | 283 => 233 | 284 => 234 | 285 => 235 | 286 => 236 | 129 => 212 | 317 => 245 | 318 => 246 | 319 => 247 | 320 => 248 | 337 => 252 | 338 => 253 | n => n, fun | 3 => 3 | 9 => 9 | 2 => 2 | 4 => 4 | 171 => 282 | 0 => 0 | 53 => 129 | 37 => 191 | 5 => 5 | 173 => 284 | 212 => 292 | 51 => 188 | 20 => 20 | 213 => 293 | 46 => 190 | 232 => 298 | 233 => 299 | n => n, fun | 17 => 1 | 18 => 2 | 19 => 3 | n => n⟩
theorem Tryz.itoaL : Go.Proofs.LaysM.n171 Tryz.prog Tryz.itoaL_ren := {
  mixed := by kernel_rfl
  f129 := Tryz.func212.trans (congrArg some (by kernel_rfl))
  f171 := Tryz.func157.trans (congrArg some (by kernel_rfl))
  f243 := Tryz.func187.trans (congrArg some (by kernel_rfl))
  f246 := Tryz.func215.trans (congrArg some (by kernel_rfl))
  f283 := Tryz.func233.trans (congrArg some (by kernel_rfl))
  f284 := Tryz.func234.trans (congrArg some (by kernel_rfl))
  f285 := Tryz.func235.trans (congrArg some (by kernel_rfl))
  f286 := Tryz.func236.trans (congrArg some (by kernel_rfl))
  f317 := Tryz.func245.trans (congrArg some (by kernel_rfl))
  f318 := Tryz.func246.trans (congrArg some (by kernel_rfl))
  f319 := Tryz.func247.trans (congrArg some (by kernel_rfl))
  f320 := Tryz.func248.trans (congrArg some (by kernel_rfl))
  f337 := Tryz.func252.trans (congrArg some (by kernel_rfl))
  f338 := Tryz.func253.trans (congrArg some (by kernel_rfl))
  t0 := Tryz.underlying0
  a0 := Tryz.isAgg0
  z0 := Tryz.sizeOf0
  v0 := Tryz.zeroValue0
  t2 := Tryz.underlying2
  a2 := Tryz.isAgg2
  z2 := Tryz.sizeOf2
  v2 := Tryz.zeroValue2
  t3 := Tryz.underlying3
  a3 := Tryz.isAgg3
  z3 := Tryz.sizeOf3
  v3 := Tryz.zeroValue3
  t4 := Tryz.underlying4
  a4 := Tryz.isAgg4
  z4 := Tryz.sizeOf4
  v4 := Tryz.zeroValue4
  t5 := Tryz.underlying5
  a5 := Tryz.isAgg5
  z5 := Tryz.sizeOf5
  v5 := Tryz.zeroValue5
  t9 := Tryz.underlying9
  a9 := Tryz.isAgg9
  z9 := Tryz.sizeOf9
  v9 := Tryz.zeroValue9
  t20 := Tryz.underlying20
  a20 := Tryz.isAgg20
  z20 := Tryz.sizeOf20
  v20 := Tryz.zeroValue20
  t37 := Tryz.underlying191
  a37 := Tryz.isAgg191
  z37 := Tryz.sizeOf191
  v37 := Tryz.zeroValue191
  t46 := Tryz.underlying190
  a46 := Tryz.isAgg190
  z46 := Tryz.sizeOf190
  v46 := Tryz.zeroValue190
  t51 := Tryz.underlying188
  a51 := Tryz.isAgg188
  z51 := Tryz.sizeOf188
  v51 := Tryz.zeroValue188
  t53 := Tryz.underlying129
  a53 := Tryz.isAgg129
  z53 := Tryz.sizeOf129
  v53 := Tryz.zeroValue129
  t171 := Tryz.underlying282
  a171 := Tryz.isAgg282
  z171 := Tryz.sizeOf282
  v171 := Tryz.zeroValue282
  t173 := Tryz.underlying284
  a173 := Tryz.isAgg284
  z173 := Tryz.sizeOf284
  v173 := Tryz.zeroValue284
  t212 := Tryz.underlying292
  a212 := Tryz.isAgg292
  z212 := Tryz.sizeOf292
  v212 := Tryz.zeroValue292
  t213 := Tryz.underlying293
  a213 := Tryz.isAgg293
  z213 := Tryz.sizeOf293
  t232 := Tryz.underlying298
  a232 := Tryz.isAgg298
  z232 := Tryz.sizeOf298
  v232 := Tryz.zeroValue298
  t233 := Tryz.underlying299
  a233 := Tryz.isAgg299
  z233 := Tryz.sizeOf299
  v233 := Tryz.zeroValue299
  g17 := by kernel_rfl
  g18 := by kernel_rfl
  g19 := by kernel_rfl
  i0 := by kernel_rfl
  i2 := by kernel_rfl
  i3 := by kernel_rfl
  i4 := by kernel_rfl
  i5 := by kernel_rfl
  i9 := by kernel_rfl
  i20 := by kernel_rfl
  i37 := by kernel_rfl
  i46 := by kernel_rfl
  i51 := by kernel_rfl
  i53 := by kernel_rfl
  i171 := by kernel_rfl
  i173 := by kernel_rfl
  i212 := by kernel_rfl
  i232 := by kernel_rfl
  i233 := by kernel_rfl
  m17 := by kernel_rfl
  m18 := by kernel_rfl
  m19 := by kernel_rfl }
def Tryz.compareL_ren : Go.Shelf.Ren := ⟨fun | 106 => 192 | 213 => 219 | 265 => 237 | n => n, fun | 9 => 9 | 3 => 3 | n => n, fun | n => n⟩
theorem Tryz.compareL : Go.Proofs.Lays.n106 Tryz.prog Tryz.compareL_ren := {
  mixed := by kernel_rfl
  f106 := Tryz.func192.trans (congrArg some (by kernel_rfl))
  f213 := Tryz.func219.trans (congrArg some (by kernel_rfl))
  f265 := Tryz.func237.trans (congrArg some (by kernel_rfl))
  t3 := Tryz.underlying3
  a3 := Tryz.isAgg3
  z3 := Tryz.sizeOf3
  v3 := Tryz.zeroValue3
  t9 := Tryz.underlying9
  a9 := Tryz.isAgg9
  z9 := Tryz.sizeOf9
  v9 := Tryz.zeroValue9 }
end Go.Proofs

/- What is proved: 'slices.Sorted(maps.Keys(m))' gives the keys, rising. Conditions: the map is not nil, its keys and their number are bounded. -/
set_option linter.unusedSimpArgs false
set_option linter.unusedVariables false
namespace Go.Proofs.YtccfiohagbneaaaGreatDoor
open Go Go.J Go.RowKit Go.Maps Go.Sort Go.Shelf

def anyR : Value → Option (DataW Unit × List MemPlace) := fun _ => some (.nil, [])
theorem own_of_map {P : Program} {k : TypeId} {b : Nat} {m : KV} {w : World} (hk : P.underlying k = some .string) (h : MapIs b m w) (hl : m.length ≤ maxLen) (hkl : ∀ p ∈ m, p.1.length ≤ maxLen) :
    ∃ D0 : DataW Unit, w.ownsMap P k anyR b m.length D0 ∧ (strKeys D0).Perm (m.map Prod.fst) ∧ Maps.size D0 = m.length := by
  obtain ⟨hnd, es, clock, hb, hkv, hbn, hbc⟩ := h
  have hlen : es.length = m.length := by have := congrArg List.length hkv; simpa [kvs, kvm] using this
  have hkeys : es.map (·.key) = m.map fun p => str p.1 := by
    have := congrArg (List.map Prod.fst) hkv
    simpa [kvs, kvm, List.map_map, Function.comp_def] using this
  have hrd : ∀ x ∈ es, ∃ s, x.key = str s ∧ WideElems.rd P k anyR x = some (.string s, .nil) := fun x hx => by
    have hm : x.key ∈ es.map (·.key) := List.mem_map_of_mem hx
    rw [hkeys] at hm
    obtain ⟨p, hp, he⟩ := List.mem_map.1 hm
    refine ⟨p.1, he.symm, ?_⟩
    unfold WideElems.rd
    rw [← he, WideMaps.keyOf_string_mk hk (show (⟨⟨p.1⟩⟩ : ByteArray).size ≤ maxLen from by rw [size_mk]; exact hkl p hp)]
    rfl
  refine ⟨.map ((es.map (WideElems.rg P k anyR)).foldr DataW.insert []), ⟨⟨es⟩, clock, hb, ⟨by simpa [hlen] using hl, ⟨by simpa using hbc, by simpa using hbn, ?_⟩, fun x hx => ?_⟩, by simp [hlen], rfl⟩, ?_, ?_⟩
  · simp only
    rw [hkeys]
    have : (m.map fun p => str p.1) = (m.map Prod.fst).map str := by simp [List.map_map, Function.comp_def]
    rw [this]
    refine List.Pairwise.map (S := fun a b => a ≠ b) str (fun a b h e => h ?_) hnd
    simpa [str] using e
  · obtain ⟨s, _, h2⟩ := hrd x (by simpa using hx)
    exact ⟨_, h2⟩
  · have hp : ((es.map (WideElems.rg P k anyR)).foldr DataW.insert []).Perm (es.map (WideElems.rg P k anyR)) := Go.WideShapes.sorted_perm _
    refine (hp.map fun p => strOf p.1).trans ?_
    rw [List.map_map]
    have e : es.map ((fun p => strOf p.1) ∘ WideElems.rg P k anyR) = m.map Prod.fst := by
      have h1 : (es.map fun x => x.key) = ((m.map Prod.fst).map str) := by rw [hkeys]; simp [List.map_map, Function.comp_def]
      have h2 : ∀ x ∈ es, str (((fun p => strOf p.1) ∘ WideElems.rg P k anyR) x) = x.key := fun x hx => by
        obtain ⟨s, h1, h2⟩ := hrd x hx
        simp only [Function.comp_def, WideElems.rg, h2, Option.getD_some, strOf, h1]
      have h3 : (es.map ((fun p => strOf p.1) ∘ WideElems.rg P k anyR)).map str = (m.map Prod.fst).map str := by
        rw [← h1, List.map_map]
        exact List.map_congr_left h2
      exact (List.map_inj_right (f := str) (fun a b h => by simpa [str] using h)).1 h3
    rw [e]
  · have hp : ((es.map (WideElems.rg P k anyR)).foldr DataW.insert []).Perm (es.map (WideElems.rg P k anyR)) := Go.WideShapes.sorted_perm _
    have := hp.length_eq
    rw [List.length_map] at this
    rw [← hlen, ← this]
    rfl

theorem sortsL (m : Nat) : AnyZ.SortsIn Tryz.prog Tryz.sortedL_ren Fence.wide m :=
  ⟨fun blk off cap ss W hH hblk hsz => callsIn_wide.2 (AnyM.slices_Sort_string Tryz.sortL blk off cap ss W hH hblk hsz),
   fun p cap W => callsIn_wide.2 (AnyM.slices_Sort_string_none Tryz.sortL p cap W)⟩
def keysT : TypeId := Tryz.keysL_ren.t 23 -- 76
theorem mapsKeys_c (mb : Nat) (w : World) : Cal Tryz.prog 76 [.map (some mb)] w fun v w' => v = .func (.func 139) ⟨[]⟩ ⟨[.pointer (some ⟨w.heap.size, 0, none⟩)]⟩ ∧ w' = w.alloc (.cells ⟨[.map (some mb)]⟩ keysT) :=
  ⟨by kernel_rfl, (callsIn_wide.1 (AnyZ.keys_in Tryz.keysL Fence.wide 5 trivial rfl (some mb) w)).mono fun e w' ⟨h1, h2⟩ => ⟨_, h1, rfl, h2⟩⟩
theorem mapsKeys_n (mb : Nat) (w : World) : Cal Tryz.prog 76 [.map (some mb)] w fun v w' => ∃ x, v = .func (.func 139) ⟨[]⟩ ⟨[.pointer (some ⟨x, 0, none⟩)]⟩ ∧ Upd [] w w' ∧ New w w' (.box x keysT [.map (some mb)]) :=
  (mapsKeys_c mb w).mono fun v w' ⟨h1, h2⟩ => by
    subst h2
    have hh := heap_alloc_new w (.cells ⟨[.map (some mb)]⟩ keysT)
    exact ⟨_, h1, .alloc _ _ _, ⟨hh, fun b hb => by simp [Chunk.fp] at hb; subst hb; simp⟩⟩
theorem sorted_c {x mb : Nat} {m : KV} {w : World} (hx : w.heap[x]? = some (.cells ⟨[.map (some mb)]⟩ keysT (0, 0))) (hm : MapIs mb m w) (hl : m.length ≤ 1048576) (hkl : ∀ p ∈ m, p.1.length ≤ 1099511627776) :
    Cal Tryz.prog 75 [.func (.func 139) ⟨[]⟩ ⟨[.pointer (some ⟨x, 0, none⟩)]⟩] w fun v w' => Upd [] w w' ∧ ∃ A cap, v = .slice A m.length cap ∧
      New w w' (.own (.slice A m.length cap) 9 1 m.length (strs ((m.map Prod.fst).mergeSort (fun x y => decide (x ≤ y))))) := by
  have hmx : m.length ≤ maxLen := by unfold maxLen; omega
  obtain ⟨D0, hown, hperm, hsz⟩ := own_of_map Tryz.underlying9 hm hmx (fun p hp => by have := hkl p hp; unfold maxLen; omega)
  have hxl : x < w.heap.size := (Array.getElem?_eq_some_iff.1 hx).1
  have hseq : SeqGives Fence.wide 2 Tryz.prog 139 #[.pointer (some ⟨x, 0, none⟩)] encStr (fun ss => ss.Perm (strKeys D0)) (Maps.size D0) w :=
    AnyZ.keys_gives (ρ := Tryz.keysL_ren) { Tryz.keysL with } Fence.wide _ trivial rfl (by omega) x mb m.length D0 _ hxl (by rw [cell_of_row w x 0 _ _ _ hx]; rfl) hown
  have cS := AnyZ.sorted_in Tryz.sortedL Fence.wide 5 trivial trivial trivial trivial rfl (by omega) (sortsL _) (enters_of Tryz.func138 (by kernel_rfl) rfl) 139 #[.pointer (some ⟨x, 0, none⟩)] trivial (enters_of Tryz.func139 (by kernel_rfl) rfl) _ _ (by rw [hsz]; exact hmx) (by rw [hsz]; omega) _ hseq
  change CallsIn _ _ Tryz.prog 75 _ _ _ at cS
  refine ⟨by kernel_rfl, (callsIn_wide.1 cS).mono fun e w' ⟨v, ss, he, hS, hrow, hnil, hb⟩ => ⟨v, he, .of_below hb, ?_⟩⟩
  have hp : ss.Perm (m.map Prod.fst) := hS.trans hperm
  have hlen : ss.length = m.length := by rw [hp.length_eq, List.length_map]
  have hms : ss.mergeSort (fun x y => decide (x ≤ y)) = (m.map Prod.fst).mergeSort (fun x y => decide (x ≤ y)) := mergeSort_of_perm hp
  rw [hms, hlen] at hrow
  have hst : ((m.map Prod.fst).mergeSort (fun x y => decide (x ≤ y))).map encStr = strs ((m.map Prod.fst).mergeSort (fun x y => decide (x ≤ y))) := by
    generalize (m.map Prod.fst).mergeSort (fun x y => decide (x ≤ y)) = l
    induction l with
    | nil => rfl
    | cons a l ih => simp only [List.map_cons, ih]; rfl
  rw [hst] at hrow
  have hrow' := hrow
  rcases hrow.2 with ⟨rfl, hz⟩ | ⟨g, cap, cur, rfl, hg, hh, _⟩
  · refine ⟨none, 0, by rw [hz], ⟨?_, fun b hb => by simp [Chunk.fp, Value.ownBlock] at hb⟩⟩
    have := RowAt.of_owns hrow
    rwa [hz] at this ⊢
  · exact ⟨_, _, rfl, ⟨RowAt.of_owns hrow', fun b hb => by
      simp [Chunk.fp, Value.ownBlock] at hb
      subst hb
      exact ⟨hg, (Array.getElem?_eq_some_iff.1 hh).1⟩⟩⟩
end Go.Proofs.YtccfiohagbneaaaGreatDoor

/- What is proved: what the disk's Arm and Restart do. Conditions: files of bounded length, of which what is kept is no longer than what is seen where it has only grown. -/
set_option linter.unusedSimpArgs false
set_option linter.unusedVariables false
namespace Go.J
open Go Go.RowKit
section
variable {P : Program} {N : Fz} {f : Fr} {w w0 : World} {Q : Post} {ops l : List Oper} {o : Oper} {M : List Nat} {H H' : List Chunk} {Z : List Snap} {ρ : Operand → Value}
theorem run_remU {ty ty' : TypeId} {x y : Operand} {a b : Int} (ho : o.op = .binOp .rem ty x y ty') (hx : ρ x = .int .u64 a) (hy : ρ y = .int .u64 b) (ha : 0 ≤ a) (hb : 0 < b ∧ b < 18446744073709551616) :
    (execOp ρ o).run P w = .ok (.value (.int .u64 (a % b))) w := by
  have h0 : ¬ b = 0 := by omega
  have h1 : (eqGuard .rem ty x y (.int .u64 a) (.int .u64 b)).run P w = .ok () w := by simp [eqGuard]
  have h2 : (binOp .rem ty (.int .u64 a) (.int .u64 b)).run P w = .ok (.int .u64 (a % b)) w := by
    have e1 := Int.emod_nonneg a h0
    have e2 := Int.emod_lt_of_pos a hb.1
    have e3 : IntKind.u64.wrap (a % b) = a % b := by rw [IntKind.wrap_u64]; omega
    simp [binOp, Op.intDiv, h0, Int.tmod_eq_emod_of_nonneg ha, e3]
  simp only [execOp, ho, hx, hy, Sem.run_bind, h1, h2, Result.andThen_ok]
  rfl
theorem WL.remU {ty ty' : TypeId} {x y : Operand} {a b : Int} (ho : o.op = .binOp .rem ty x y ty') (hx : ev f x = .int .u64 a) (hy : ev f y = .int .u64 b) (ha : 0 ≤ a) (hb : 0 < b ∧ b < 18446744073709551616)
    (hg : wants ops f o = true) {d : Nat} (hd : o.dst = some d) (hn : N.ok d = true) (h : WL P N ops l (up f d (.int .u64 (a % b))) w Q) : WL P N ops (o :: l) f w Q := .val hg hd hn (run_remU ho hx hy ha hb) h
theorem wrapU {a : Int} (h : 0 ≤ a ∧ a < 18446744073709551616) : IntKind.u64.wrap a = a := by rw [IntKind.wrap_u64]; omega
theorem WL.subU {ty ty' : TypeId} {x y : Operand} {a b : Int} (ho : o.op = .binOp .sub ty x y ty') (hx : ev f x = .int .u64 a) (hy : ev f y = .int .u64 b) (hr : 0 ≤ a - b ∧ a - b < 18446744073709551616)
    (hg : wants ops f o = true) {d : Nat} (hd : o.dst = some d) (hn : N.ok d = true) (h : WL P N ops l (up f d (.int .u64 (a - b))) w Q) : WL P N ops (o :: l) f w Q := by
  refine WL.subW ho hx hy hg hd hn ?_
  rw [wrapU hr]; exact h
def toU64 (P : Program) (s d : TypeId) : Bool := match P.underlying s, P.underlying d with
  | some (.int _), some (.int .u64) => true
  | _, _ => false
theorem WL.convU {s d' : TypeId} {x : Operand} {k : IntKind} {a : Int} (ho : o.op = .convert s d' x) (ht : toU64 P s d' = true) (hx : ev f x = .int k a) (hr : 0 ≤ a ∧ a < 18446744073709551616)
    (hg : wants ops f o = true) {d : Nat} (hd : o.dst = some d) (hn : N.ok d = true) (h : WL P N ops l (up f d (.int .u64 a)) w Q) : WL P N ops (o :: l) f w Q := by
  refine .pure (v := .int .u64 a) ?_ hg hd hn h
  unfold toU64 at ht
  split at ht
  · rename_i k1 h1 h2
    unfold pureV
    rw [ho]
    simp only [pureOp, h1, h2, hx, wrapU hr]
    rfl
  · cases ht
end
section
variable {P : Program} {N : Fz} {f : Fr} {w w0 : World} {Q : Post} {ops : List Oper} {M : List Nat} {H0 H H' : List Chunk} {Z0 Z : List Snap} {q : Qs} {l : List Nat} {i : Nat} {S : World → Prop}
theorem WD.remU {ty ty' : TypeId} {x y : Operand} {a b : Int} (ho : (ix ops i).op = .binOp .rem ty x y ty') (hx : ev f x = .int .u64 a) (hy : ev f y = .int .u64 b) (ha : 0 ≤ a) (hb : 0 < b ∧ b < 18446744073709551616)
    (hq : q.contains i = true) (hg : wants ops f (ix ops i) = true) {d : Nat} (hd : (ix ops i).dst = some d) (hn : N.ok d = true) (h : WD P N S ops q l (up f d (.int .u64 (a % b))) w Q) : WD P N S ops q (i :: l) f w Q :=
  .take hq hd hn (.inl ⟨hg, fun _ _ => run_remU ho hx hy ha hb⟩) h
theorem WD.convU {s d' : TypeId} {x : Operand} {k : IntKind} {a : Int} (ho : (ix ops i).op = .convert s d' x) (ht : toU64 P s d' = true) (hx : ev f x = .int k a) (hr : 0 ≤ a ∧ a < 18446744073709551616)
    (hq : q.contains i = true) (hg : wants ops f (ix ops i) = true) {d : Nat} (hd : (ix ops i).dst = some d) (hn : N.ok d = true) (h : WD P N S ops q l (up f d (.int .u64 a)) w Q) : WD P N S ops q (i :: l) f w Q := by
  refine .pure (v := .int .u64 a) ?_ hq hg hd hn h
  unfold toU64 at ht
  split at ht
  · rename_i k1 h1 h2
    unfold pureV
    rw [ho]
    simp only [pureOp, h1, h2, hx, wrapU hr]
    rfl
  · cases ht
end
end Go.J
namespace Go.Proofs.YtccfiohagbneaaaGreatDoor
open Go Go.J Go.RowKit

def Dk.arm (D : Dk) (n : Int) : Dk := { D with armed := max (-1) n }
set_option maxHeartbeats 4000000 in
set_option maxRecDepth 100000 in
theorem arm_c {q mb lb : Nat} {D : Dk} (n : Int) {w0 : World} (hc : (dkC q mb lb D).holds w0) (hi : inB (dkC q mb lb D) w0) :
    Cal Tryz.prog 19 [.pointer (some ⟨q, 0, none⟩), .int .i64 n] w0 (fun v w' => v = .tuple #[] ∧ Mut w0 w' (dkC q mb lb D) (dkC q mb lb (D.arm n))) := by
  refine Cal.mkM hc hi (by kernel_rfl) Tryz.func19 rfl rfl fun hS => ?_
  obtain ⟨h1, h2, h3, hS⟩ := St.dkOpen hS
  replace hS : St w0 (dkC q mb lb D).fp w0 [.box q 122 [.map (some mb), .map (some lb), .int .i64 D.steps, .int .i64 D.stamps, .int .i64 D.armed, .bool D.down], mapC mb (mmap encIt D.items), mapC lb (mmap encI D.limits)] _ := hS
  repeat' (first
    | (show WL _ _ _ _ _ _ _; first
      | refine WL.pure rfl rfl rfl rfl ?_
      | refine WL.nil ?_
      | refine WL.maxI rfl rfl rfl rfl rfl rfl ?_
      | (refine WL.store hS rfl rfl rfl (by repeat (first | exact StB.here rfl | apply StB.there)) rfl rfl rfl ?_; intro w hS))
    | (show WC _ _ _ _ _ _; first
      | refine WC.seq ?_
      | refine WC.region ?_
      | refine WC.condT rfl (by decide) ?_)
    | refine seqQ_n ?_)
  exact fin0n rfl ⟨rfl, (St.dkClose (D.arm n) h1 h2 h3 hS).mutOf (List.Mem.head _)⟩
def mixS (x s : Int) : Int := bits .xor .u64 x (shrI .u64 x s)
/-- a number that looks like chance -/
def mixE (loss n : Int) : Int := mixS (IntKind.u64.wrap (mixS (IntKind.u64.wrap (mixS (IntKind.u64.wrap (loss + IntKind.u64.wrap (n * 11400714819323198485))) 30 * 13787848793156543929)) 27 * 10723151780598845931)) 31
theorem mixE_in (loss n : Int) : 0 ≤ mixE loss n ∧ mixE loss n < 18446744073709551616 := by
  have h : ∀ y, 0 ≤ IntKind.u64.wrap y ∧ IntKind.u64.wrap y < 18446744073709551616 := fun y => by rw [IntKind.wrap_u64]; omega
  exact h _
set_option maxHeartbeats 4000000 in
set_option maxRecDepth 100000 in
theorem mix_c (loss n : Int) (w0 : World) : Cal Tryz.prog 77 [.int .u64 loss, .int .u64 n] w0 (fun v w' => Upd [] w0 w' ∧ v = .int .u64 (mixE loss n)) := by
  refine Cal.mk' (by kernel_rfl) Tryz.func77 rfl rfl fun hS => ?_
  repeat' (first
    | (show WL _ _ _ _ _ _ _; first
      | refine WL.pure rfl rfl rfl rfl ?_
      | refine WL.nil ?_
      | (refine WL.shr rfl rfl rfl (by decide) rfl rfl rfl ?_))
    | (show WC _ _ _ _ _ _; first
      | refine WC.seq ?_
      | refine WC.region ?_
      | refine WC.ret ?_)
    | refine seqQ_n ?_)
  exact fin1r rfl rfl ⟨hS.upd, rfl⟩
/-- what is kept of a file that wasn't synced -/
def loseK (loss n : Int) (x : It) : List UInt8 :=
  if x.anew then (if 0 < mixE (IntKind.u64.wrap loss) n % ((x.data.length : Int) + 2) then x.data.take (mixE (IntKind.u64.wrap loss) n % ((x.data.length : Int) + 2) - 1).toNat else x.kept)
  else x.data.take ((x.kept.length : Int) + mixE (IntKind.u64.wrap loss) n % ((x.data.length : Int) - x.kept.length + 1)).toNat
def lose1 (loss : Int) (s : Int × Dk) (p : List UInt8) : Int × Dk :=
  if (s.2.at p).loose then (s.1 + 1, s.2.set p { s.2.at p with data := loseK loss (s.1 + 1) (s.2.at p), kept := loseK loss (s.1 + 1) (s.2.at p), loose := false, anew := false }) else s
def Dk.keys (D : Dk) : List (List UInt8) := (D.items.map Prod.fst).mergeSort (fun x y => decide (x ≤ y))
def Dk.lose (D : Dk) (loss : Int) : Int × Dk := D.keys.foldl (lose1 loss) (0, D)
def Dk.restart (D : Dk) (loss : Int) : Dk := { (D.lose loss).2 with down := false, armed := -1 }
/-- no file is great, and where one has only grown, what is kept is no more than what is seen -/
def Dk.Kp (D : Dk) (B : Nat) : Prop := ∀ x ∈ D.items, x.2.data.length ≤ B ∧ x.2.kept.length ≤ B ∧ (x.2.loose = true → x.2.anew = false → x.2.kept.length ≤ x.2.data.length)
theorem Dk.Kp.at_ {D : Dk} {B : Nat} (h : D.Kp B) (p : List UInt8) : (D.at p).data.length ≤ B ∧ (D.at p).kept.length ≤ B ∧ ((D.at p).loose = true → (D.at p).anew = false → (D.at p).kept.length ≤ (D.at p).data.length) := by
  unfold Dk.at
  cases e : mget D.items p with
  | none => exact ⟨Nat.zero_le _, Nat.zero_le _, fun h => by cases h⟩
  | some x => exact h _ (mget_mem e)
theorem loseK_len (loss n : Int) (x : It) {B : Nat} (h1 : x.data.length ≤ B) (h2 : x.kept.length ≤ B) : (loseK loss n x).length ≤ B := by
  unfold loseK
  repeat' split
  all_goals first | exact h2 | (rw [List.length_take]; omega)
theorem lose1_Kp {loss : Int} {s : Int × Dk} {p : List UInt8} {B : Nat} (h : s.2.Kp B) : (lose1 loss s p).2.Kp B := by
  unfold lose1
  split
  · intro y hy
    rcases mem_mset hy with h1 | h1
    · exact h y h1
    · rw [h1]
      have := loseK_len loss (s.1 + 1) (s.2.at p) (h.at_ p).1 (h.at_ p).2.1
      exact ⟨this, this, fun hh => by cases hh⟩
  · exact h
theorem u64_nat {a : Int} {n : Nat} (h : a = (n : Int)) : Value.int .u64 a = .int .u64 (Int.ofNat n) := by rw [h]; rfl
set_option maxHeartbeats 16000000 in
set_option maxRecDepth 100000 in
theorem restart_c {q mb lb : Nat} {D : Dk} (loss : Int) {w0 : World} (hc : (dkC q mb lb D).holds w0) (hi : inB (dkC q mb lb D) w0) (hk : D.Kp 1099511627776) (hn : D.items.length ≤ 1048576) (hkk : ∀ x ∈ D.items, x.1.length ≤ 1099511627) :
    Cal Tryz.prog 20 [.pointer (some ⟨q, 0, none⟩), .int .i64 loss] w0 (fun v w' => v = .int .i64 0 ∧ Mut w0 w' (dkC q mb lb D) (dkC q mb lb (D.restart loss))) := by
  refine Cal.mkM hc hi (by kernel_rfl) Tryz.func20 rfl rfl fun hS => ?_
  have hkl : D.keys.length = D.items.length := by unfold Dk.keys; rw [(List.mergeSort_perm _ _).length_eq, List.length_map]
  have hml : (mmap encIt D.items).length = D.items.length := by unfold mmap; rw [List.length_map]
  have hmk : (mmap encIt D.items).map Prod.fst = D.items.map Prod.fst := by unfold mmap; rw [List.map_map]; rfl
  have hks : ((mmap encIt D.items).map Prod.fst).mergeSort (fun x y => decide (x ≤ y)) = D.keys := by rw [hmk]; rfl
  have hmkk : ∀ p ∈ mmap encIt D.items, p.1.length ≤ 1099511627776 := fun p hp => by
    obtain ⟨x, hx, rfl⟩ := List.mem_map.1 hp
    have := hkk x hx
    show x.1.length ≤ _
    omega
  repeat' (first
    | (show WL _ _ _ _ _ _ _; first
      | refine WL.pure rfl rfl rfl rfl ?_
      | refine WL.nil ?_
      | (refine WL.load hS rfl rfl (LdOk.dk (D := D) (by repeat (first | exact List.Mem.head _ | apply List.Mem.tail)) rfl) rfl rfl rfl ?_)
      | (refine WL.callG rfl rfl (mapsKeys_n mb _) rfl rfl rfl ?_; rintro v w ⟨x, rfl, hu, hnw⟩; replace hS := hS.new hu hnw; clear hu hnw)
      | (refine WL.callG rfl rfl (sorted_c (m := mmap encIt D.items) (hS.holds (.box x keysT [.map (some mb)]) (by repeat (first | exact List.Mem.head _ | apply List.Mem.tail))) (hS.holds (dkC q mb lb D) (by repeat (first | exact List.Mem.head _ | apply List.Mem.tail))).1.2.2.2.2.1 (by rw [hml]; exact hn) hmkk) rfl rfl rfl ?_; rintro v w ⟨hu, A, cap, rfl, hnw⟩; rw [hks, hml] at hnw; rw [hml]; replace hS := hS.new hu hnw; clear hu hnw))
    | (show WC _ _ _ _ _ _; first
      | refine WC.seq ?_
      | refine WC.region ?_
      | refine WC.block ?_
      | refine WC.skip ?_
      | refine WC.condF rfl (by with_reducible rfl) ?_)
    | refine seqQ_n ?_)
  refine WC.loop (σ := Nat × Int × Dk) [0, 1, 18, 19] (fun (k, n, E) => [(5, .int .i64 n), (20, .int .i64 (k : Int))])
    (fun (k, n, E) w => k ≤ D.items.length ∧ 0 ≤ n ∧ n ≤ k ∧ E.Kp 1099511627776 ∧ (D.keys.drop k).foldl (lose1 loss) (n, E) = D.lose loss ∧ St w0 _ w [.own (.slice A D.items.length cap) 9 1 D.items.length (strs D.keys), .box x keysT [.map (some mb)], dkC q mb lb E] _)
    (fun (k, _) => D.items.length - k) (0, 0, D) ⟨Nat.zero_le _, Int.le_refl _, Int.le_refl _, hk, rfl, hS⟩ ⟨rfl, rfl, trivial⟩ ?_
  clear hS
  rintro ⟨k, n, E⟩ g w ⟨hk', h0, hnk, hKp, hfold, hS⟩
  show WC _ _ _ (lf _ [(5, .int .i64 n), (20, .int .i64 (k : Int))] _ _) _ _
  by_cases hlt : k < D.items.length
  · have hlt2 : k < D.keys.length := by omega
    obtain ⟨ga, oa, rfl⟩ := hS.own_addr (List.Mem.head _) (by omega)
    have hx : (strs D.keys)[k * 1]? = some (str D.keys[k]) := by rw [Nat.mul_one]; exact strs_at hlt2
    have hstep : D.keys.drop k = D.keys[k] :: D.keys.drop (k + 1) := List.drop_eq_getElem_cons hlt2
    rw [hstep, List.foldl_cons] at hfold
    clear hstep
    generalize D.keys[k] = p at *
    have hat := hKp.at_ p
    have hKp' := lose1_Kp (loss := loss) (s := (n, E)) (p := p) hKp
    have hlk := look_it E.items p
    have hE : E.at p = (mget E.items p).getD It0 := rfl
    rw [← hE] at hlk
    clear hE
    have hl1 : lose1 loss (n, E) p = if (E.at p).loose then (n + 1, E.set p { E.at p with data := loseK loss (n + 1) (E.at p), kept := loseK loss (n + 1) (E.at p), loose := false, anew := false }) else (n, E) := rfl
    rw [hl1] at hfold hKp'
    clear hl1
    generalize E.at p = it at *
    obtain ⟨dir, dat, kept, loose, anew, stamp⟩ := it
    dsimp only at *
    have hlk : lookV (encIt It0) (mmap encIt E.items) p false = .agg ⟨[.bool dir, str dat, str kept, .bool loose, .bool anew, .int .i64 stamp]⟩ := hlk
    have hpk := mixE_in (IntKind.u64.wrap loss) (n + 1)
    cases loose with
    | false =>
      rw [if_neg (by decide)] at hfold hKp'
      repeat' (first
        | (show WL _ _ _ _ _ _ _; first
          | refine WL.pure rfl rfl rfl rfl ?_
          | refine WL.nil ?_
          | refine WL.load hS rfl rfl (LdOk.box (by repeat (first | exact List.Mem.head _ | apply List.Mem.tail)) rfl) rfl rfl rfl ?_
          | refine WL.add rfl rfl rfl (by omega) rfl rfl rfl ?_
          | (refine WL.load hS rfl rfl (LdOk.ownAt (by repeat (first | exact List.Mem.head _ | apply List.Mem.tail)) rfl ⟨_, rfl⟩ hx rfl) rfl rfl rfl ?_)
          | (refine WL.load hS rfl rfl (LdOk.dk (D := E) (by repeat (first | exact List.Mem.head _ | apply List.Mem.tail)) rfl) rfl rfl rfl ?_)
          | (refine WL.mget hS rfl rfl rfl rfl (MapOk.dk (D := E) (by repeat (first | exact List.Mem.head _ | apply List.Mem.tail))) hlk rfl rfl rfl ?_)
          | (refine WL.store hS rfl rfl rfl (by repeat (first | exact StB.here rfl | apply StB.there)) rfl rfl rfl ?_; intro w hS)
          | (refine WL.alloc hS rfl rfl rfl rfl rfl rfl ?_; intro w b hS)
          | refine WL.index rfl rfl rfl rfl (by first | with_reducible assumption | omega) rfl rfl rfl rfl ?_)
        | (show WC _ _ _ _ _ _; first
          | refine WC.seq ?_
          | refine WC.region ?_
          | refine WC.block ?_
          | refine WC.skip ?_
          | refine WC.exit ?_
          | refine WC.condT rfl (by decide) ?_
          | refine WC.condT rfl (decide_eq_true (by first | with_reducible assumption | omega)) ?_)
        | refine seqQ_n ?_
        | refine seqQ_x ?_
        | refine blkQ_hit rfl ?_)
      exact rndQ_n (k + 1, n, E) ⟨by omega, h0, by show n ≤ ((k + 1 : Nat) : Int); omega, hKp, hfold, hS.drop⟩ (by show D.items.length - (k + 1) < D.items.length - k; omega) ⟨rfl, vint (by omega), trivial⟩ ⟨rfl, rfl, rfl, rfl, trivial⟩
    | true =>
      rw [if_pos rfl] at hfold hKp'
      cases anew with
      | true =>
        have he0 := Int.emod_nonneg (mixE (IntKind.u64.wrap loss) (n + 1)) (show ((dat.length : Int) + 2) ≠ 0 by omega)
        have he1 := Int.emod_lt_of_pos (mixE (IntKind.u64.wrap loss) (n + 1)) (show (0 : Int) < (dat.length : Int) + 2 by omega)
        obtain ⟨mm, hmm⟩ : ∃ mm : Nat, mixE (IntKind.u64.wrap loss) (n + 1) % ((dat.length : Int) + 2) = (mm : Int) := ⟨_, (Int.toNat_of_nonneg he0).symm⟩
        rw [hmm] at he0 he1
        have hK : loseK loss (n + 1) ⟨dir, dat, kept, true, true, stamp⟩ = if 0 < mm then dat.take (mm - 1) else kept := by
          unfold loseK
          rw [if_pos rfl]
          dsimp only
          rw [hmm]
          by_cases hz : 0 < mm
          · rw [if_pos (by omega), if_pos hz]; congr 1; omega
          · rw [if_neg (by omega), if_neg hz]
        rw [hK] at hfold hKp'
        clear hK
        by_cases hz : 0 < mm
        · have hm1 : (mm : Int) - 1 = ((mm - 1 : Nat) : Int) := by omega
          rw [if_pos hz] at hfold hKp'
          repeat' (first
            | (show WL _ _ _ _ _ _ _; first
              | (refine WL.convU rfl rfl rfl (by omega) rfl rfl rfl ?_)
              | (refine WL.subU rfl rfl rfl (by omega) rfl rfl rfl ?_; rw [hm1])
              | refine WL.pure rfl rfl rfl rfl ?_
              | refine WL.nil ?_
              | refine WL.load hS rfl rfl (LdOk.box (by repeat (first | exact List.Mem.head _ | apply List.Mem.tail)) rfl) rfl rfl rfl ?_
              | refine WL.add rfl rfl rfl (by omega) rfl rfl rfl ?_
              | (refine WL.load hS rfl rfl (LdOk.ownAt (by repeat (first | exact List.Mem.head _ | apply List.Mem.tail)) rfl ⟨_, rfl⟩ hx rfl) rfl rfl rfl ?_)
              | (refine WL.load hS rfl rfl (LdOk.dk (D := E) (by repeat (first | exact List.Mem.head _ | apply List.Mem.tail)) rfl) rfl rfl rfl ?_)
              | (refine WL.mget hS rfl rfl rfl rfl (MapOk.dk (D := E) (by repeat (first | exact List.Mem.head _ | apply List.Mem.tail))) hlk rfl rfl rfl ?_)
              | (refine WL.calls hS rfl rfl (mix_c (IntKind.u64.wrap loss) (n + 1) _) rfl rfl rfl ?_; rintro v w rfl hS)
              | (refine WL.remU rfl rfl rfl (by omega) (by omega) rfl rfl rfl ?_; rw [hmm])
              | (refine WL.callL (D := [dkC q mb lb E]) hS (by repeat (first | exact Pulls.nil | (apply Pulls.cons; focus (repeat (first | exact Pull.here | apply Pull.there))))) rfl rfl (fun hI => dset_c p ⟨dir, dat.take (mm - 1), dat.take (mm - 1), false, false, stamp⟩ hI.head hI.headB) rfl rfl rfl ?_; rintro v w ⟨rfl, hm⟩ hS; replace hS := hS _ (.of1 hm); clear hm)
              | refine WL.highS rfl rfl rfl rfl (by omega) rfl rfl rfl ?_
              | (refine WL.store hS rfl rfl rfl (by repeat (first | exact StB.here rfl | apply StB.there)) rfl rfl rfl ?_; intro w hS)
              | (refine WL.alloc hS rfl rfl rfl rfl rfl rfl ?_; intro w b hS)
              | refine WL.index rfl rfl rfl rfl (by first | with_reducible assumption | omega) rfl rfl rfl rfl ?_)
            | (show WC _ _ _ _ _ _; first
              | refine WC.seq ?_
              | refine WC.region ?_
              | refine WC.block ?_
              | refine WC.skip ?_
              | refine WC.condT rfl (by with_reducible rfl) ?_
              | refine WC.condF rfl (by decide) ?_
              | refine WC.condT rfl (decide_eq_true (by first | with_reducible assumption | omega)) ?_)
            | refine seqQ_n ?_
            | refine blkQ_n ?_)
          exact rndQ_n (k + 1, n + 1, E.set p ⟨dir, dat.take (mm - 1), dat.take (mm - 1), false, false, stamp⟩) ⟨by omega, by show 0 ≤ n + 1; omega, by show n + 1 ≤ ((k + 1 : Nat) : Int); omega, hKp', hfold, hS.droplast2 (by repeat (first | exact Pulls.nil | (apply Pulls.cons; focus (repeat (first | exact Pull.here | apply Pull.there)))))⟩ (by show D.items.length - (k + 1) < D.items.length - k; omega) ⟨rfl, vint (by omega), trivial⟩ ⟨rfl, rfl, rfl, rfl, trivial⟩
        · rw [if_neg hz] at hfold hKp'
          repeat' (first
            | (show WL _ _ _ _ _ _ _; first
              | (refine WL.convU rfl rfl rfl (by omega) rfl rfl rfl ?_)
              | refine WL.pure rfl rfl rfl rfl ?_
              | refine WL.nil ?_
              | refine WL.load hS rfl rfl (LdOk.box (by repeat (first | exact List.Mem.head _ | apply List.Mem.tail)) rfl) rfl rfl rfl ?_
              | refine WL.add rfl rfl rfl (by omega) rfl rfl rfl ?_
              | (refine WL.load hS rfl rfl (LdOk.ownAt (by repeat (first | exact List.Mem.head _ | apply List.Mem.tail)) rfl ⟨_, rfl⟩ hx rfl) rfl rfl rfl ?_)
              | (refine WL.load hS rfl rfl (LdOk.dk (D := E) (by repeat (first | exact List.Mem.head _ | apply List.Mem.tail)) rfl) rfl rfl rfl ?_)
              | (refine WL.mget hS rfl rfl rfl rfl (MapOk.dk (D := E) (by repeat (first | exact List.Mem.head _ | apply List.Mem.tail))) hlk rfl rfl rfl ?_)
              | (refine WL.calls hS rfl rfl (mix_c (IntKind.u64.wrap loss) (n + 1) _) rfl rfl rfl ?_; rintro v w rfl hS)
              | (refine WL.remU rfl rfl rfl (by omega) (by omega) rfl rfl rfl ?_; rw [hmm])
              | (refine WL.callL (D := [dkC q mb lb E]) hS (by repeat (first | exact Pulls.nil | (apply Pulls.cons; focus (repeat (first | exact Pull.here | apply Pull.there))))) rfl rfl (fun hI => dset_c p ⟨dir, kept, kept, false, false, stamp⟩ hI.head hI.headB) rfl rfl rfl ?_; rintro v w ⟨rfl, hm⟩ hS; replace hS := hS _ (.of1 hm); clear hm)
              | (refine WL.store hS rfl rfl rfl (by repeat (first | exact StB.here rfl | apply StB.there)) rfl rfl rfl ?_; intro w hS)
              | (refine WL.alloc hS rfl rfl rfl rfl rfl rfl ?_; intro w b hS)
              | refine WL.index rfl rfl rfl rfl (by first | with_reducible assumption | omega) rfl rfl rfl rfl ?_)
            | (show WC _ _ _ _ _ _; first
              | refine WC.seq ?_
              | refine WC.region ?_
              | refine WC.block ?_
              | refine WC.skip ?_
              | refine WC.condT rfl (by with_reducible rfl) ?_
              | refine WC.condF rfl (by decide) ?_
              | refine WC.condT rfl (decide_eq_true (by first | with_reducible assumption | omega)) ?_
              | refine WC.condF rfl (decide_eq_false (by first | with_reducible assumption | omega)) ?_)
            | refine seqQ_n ?_
            | refine blkQ_n ?_)
          exact rndQ_n (k + 1, n + 1, E.set p ⟨dir, kept, kept, false, false, stamp⟩) ⟨by omega, by show 0 ≤ n + 1; omega, by show n + 1 ≤ ((k + 1 : Nat) : Int); omega, hKp', hfold, hS.droplast2 (by repeat (first | exact Pulls.nil | (apply Pulls.cons; focus (repeat (first | exact Pull.here | apply Pull.there)))))⟩ (by show D.items.length - (k + 1) < D.items.length - k; omega) ⟨rfl, vint (by omega), trivial⟩ ⟨rfl, rfl, rfl, rfl, trivial⟩
      | false =>
        have hkd := hat.2.2 rfl rfl
        have he0 := Int.emod_nonneg (mixE (IntKind.u64.wrap loss) (n + 1)) (show ((dat.length : Int) - kept.length + 1) ≠ 0 by omega)
        have he1 := Int.emod_lt_of_pos (mixE (IntKind.u64.wrap loss) (n + 1)) (show (0 : Int) < (dat.length : Int) - kept.length + 1 by omega)
        obtain ⟨mm, hmm⟩ : ∃ mm : Nat, mixE (IntKind.u64.wrap loss) (n + 1) % ((dat.length : Int) - kept.length + 1) = (mm : Int) := ⟨_, (Int.toNat_of_nonneg he0).symm⟩
        rw [hmm] at he0 he1
        have hK : loseK loss (n + 1) ⟨dir, dat, kept, true, false, stamp⟩ = dat.take (kept.length + mm) := by
          unfold loseK
          rw [if_neg (show ¬ false = true by decide)]
          dsimp only
          rw [hmm]
          congr 1
        rw [hK] at hfold hKp'
        clear hK
        repeat' (first
          | (show WL _ _ _ _ _ _ _; first
            | (refine WL.convU rfl rfl rfl (by omega) rfl rfl rfl ?_)
            | refine WL.pure rfl rfl rfl rfl ?_
            | refine WL.nil ?_
            | refine WL.load hS rfl rfl (LdOk.box (by repeat (first | exact List.Mem.head _ | apply List.Mem.tail)) rfl) rfl rfl rfl ?_
            | refine WL.add rfl rfl rfl (by omega) rfl rfl rfl ?_
            | (refine WL.load hS rfl rfl (LdOk.ownAt (by repeat (first | exact List.Mem.head _ | apply List.Mem.tail)) rfl ⟨_, rfl⟩ hx rfl) rfl rfl rfl ?_)
            | (refine WL.load hS rfl rfl (LdOk.dk (D := E) (by repeat (first | exact List.Mem.head _ | apply List.Mem.tail)) rfl) rfl rfl rfl ?_)
            | (refine WL.mget hS rfl rfl rfl rfl (MapOk.dk (D := E) (by repeat (first | exact List.Mem.head _ | apply List.Mem.tail))) hlk rfl rfl rfl ?_)
            | (refine WL.calls hS rfl rfl (mix_c (IntKind.u64.wrap loss) (n + 1) _) rfl rfl rfl ?_; rintro v w rfl hS)
            | (refine WL.callL (D := [dkC q mb lb E]) hS (by repeat (first | exact Pulls.nil | (apply Pulls.cons; focus (repeat (first | exact Pull.here | apply Pull.there))))) rfl rfl (fun hI => dset_c p ⟨dir, dat.take (kept.length + mm), dat.take (kept.length + mm), false, false, stamp⟩ hI.head hI.headB) rfl rfl rfl ?_; rintro v w ⟨rfl, hm⟩ hS; replace hS := hS _ (.of1 hm); clear hm)
            | (refine WL.store hS rfl rfl rfl (by repeat (first | exact StB.here rfl | apply StB.there)) rfl rfl rfl ?_; intro w hS)
            | (refine WL.alloc hS rfl rfl rfl rfl rfl rfl ?_; intro w b hS)
            | refine WL.index rfl rfl rfl rfl (by first | with_reducible assumption | omega) rfl rfl rfl rfl ?_)
          | (show WC _ _ _ _ _ _; first
            | refine WC.seq ?_
            | refine WC.region ?_
            | refine WC.block ?_
            | refine WC.skip ?_
            | (show WC _ _ (Code.region _ (List.toArray [_, _, _, _, _, _, _, _, _, _, _, _, _, _, _, _, _, _, _, _, _]) true) _ _ _; refine WC.drawV hS [0,1,2,3,4,5,6,7,8,9,10,11,12,13,14,15,16,17,18,19] [0,1,2,3,4,5,6,7,8,9,10,11,12,13,14,15,16,17,18,19] 20 [] (by kernel_rfl) (by kernel_rfl) ?_; clear hS; intro w hS hM)
            | refine WC.condF rfl (by with_reducible rfl) ?_
            | refine WC.condF rfl (by decide) ?_
            | refine WC.condT rfl (decide_eq_true (by first | with_reducible assumption | omega)) ?_)
          | (show WD _ _ _ _ _ _ _ _ _; first
            | (refine WD.convU rfl rfl rfl (by omega) rfl rfl rfl rfl ?_)
            | refine WD.pure rfl rfl rfl rfl rfl ?_
            | refine WD.nil ?_
            | refine WD.load rfl rfl (LdOk.box (by repeat (first | exact List.Mem.head _ | apply List.Mem.tail)) rfl) rfl rfl rfl rfl ?_
            | refine WD.add rfl rfl rfl (by omega) rfl rfl rfl rfl ?_
            | refine WD.sub rfl rfl rfl (by omega) rfl rfl rfl rfl ?_
            | (refine WD.remU rfl rfl rfl (by omega) (by omega) rfl rfl rfl rfl ?_; rw [hmm])
            | (refine WD.highS rfl rfl rfl rfl (by omega) rfl rfl rfl rfl ?_)
            | (refine WD.pivStore hS rfl rfl rfl (by repeat (first | exact StB.here rfl | apply StB.there)) rfl rfl rfl rfl ?_; clear hS; intro w hS hM)
            | refine WD.conv64 rfl rfl rfl (by omega) rfl rfl rfl rfl ?_)
          | refine seqQ_n ?_
          | refine blkQ_n ?_)
        exact rndQ_n (k + 1, n + 1, E.set p ⟨dir, dat.take (kept.length + mm), dat.take (kept.length + mm), false, false, stamp⟩) ⟨by omega, by show 0 ≤ n + 1; omega, by show n + 1 ≤ ((k + 1 : Nat) : Int); omega, hKp', hfold, hS.droplast2 (by repeat (first | exact Pulls.nil | (apply Pulls.cons; focus (repeat (first | exact Pull.here | apply Pull.there)))))⟩ (by show D.items.length - (k + 1) < D.items.length - k; omega) ⟨rfl, vint (by omega), trivial⟩ ⟨rfl, rfl, rfl, rfl, trivial⟩
  · have hke : k = D.items.length := by omega
    subst hke
    rw [← hkl, List.drop_length, List.foldl_nil] at hfold
    have hS := hS.droplast2 (D := [dkC q mb lb E]) (by repeat (first | exact Pulls.nil | (apply Pulls.cons; focus (repeat (first | exact Pull.here | apply Pull.there)))))
    have hR : D.restart loss = { E with down := false, armed := -1 } := by unfold Dk.restart; rw [← hfold]
    rw [hR]
    obtain ⟨h1, h2, h3, hS⟩ := St.dkOpen hS
    replace hS : St w0 _ w [.box q 122 [.map (some mb), .map (some lb), .int .i64 E.steps, .int .i64 E.stamps, .int .i64 E.armed, .bool E.down], mapC mb (mmap encIt E.items), mapC lb (mmap encI E.limits)] _ := hS
    repeat' (first
      | (show WL _ _ _ _ _ _ _; first
        | refine WL.pure rfl rfl rfl rfl ?_
        | refine WL.nil ?_
        | (refine WL.store hS rfl rfl rfl (by repeat (first | exact StB.here rfl | apply StB.there)) rfl rfl rfl ?_; intro w hS))
      | (show WC _ _ _ _ _ _; first
        | refine WC.seq ?_
        | refine WC.region ?_
        | refine WC.exit ?_
        | refine WC.ret ?_
        | refine WC.condF rfl (decide_eq_false (by first | with_reducible assumption | omega)) ?_)
      | refine seqQ_n ?_
      | refine seqQ_x ?_
      | refine blkQ_hit rfl ?_
      | refine rndQ_x ?_)
    exact fin1r rfl rfl ⟨rfl, (St.dkClose { E with down := false, armed := -1 } h1 h2 h3 hS).mutOf (List.Mem.head _)⟩
end Go.Proofs.YtccfiohagbneaaaGreatDoor

/- What is proved: 'slices.Sort' of a row of texts that the caller owns. Conditions: bounded length. -/
set_option linter.unusedSimpArgs false
set_option linter.unusedVariables false
namespace Go.Proofs.YtccfiohagbneaaaGreatDoor
open Go Go.J Go.RowKit Go.Maps Go.Sort Go.Shelf

theorem strs_enc (l : List (List UInt8)) : l.map encStr = strs l := by
  induction l with
  | nil => rfl
  | cons a l ih => simp only [List.map_cons, ih]; rfl
theorem RowAt.put {w : World} {e : TypeId} {g off n cap : Nat} {xs : List Value} (h : RowAt w e 1 (.slice (some ⟨g, off, none⟩) n cap) n xs) (ys : List (List UInt8)) (hy : ys.length = n) (k : Nat) (os : Array Obj) :
    RowAt (grow (putRow encStr (Sort.ahead w k) g off ys.toArray) os) e 1 (.slice (some ⟨g, off, none⟩) n cap) n (strs ys) ∧ Upd [g] w (grow (putRow encStr (Sort.ahead w k) g off ys.toArray) os) := by
  rcases h.2 with ⟨e0, _⟩ | ⟨g', off', cap', cur, e0, hg, hn, hm, hs, ht⟩
  · cases e0
  · simp only [Value.slice.injEq, Option.some.injEq, Addr.mk.injEq, true_and, and_true] at e0
    obtain ⟨⟨rfl, rfl⟩, rfl⟩ := e0
    have hlt : g < w.heap.size := (Array.getElem?_eq_some_iff.1 hg).1
    have hsz : (putRow encStr (Sort.ahead w k) g off ys.toArray).heap.size = w.heap.size := by rw [Go.Sort.size_putRow]; rfl
    have hput : (putRow encStr (Sort.ahead w k) g off ys.toArray).heap[g]? = some (.cells (putCells encStr off ys.toArray ⟨cur⟩) e (0, 0)) := by
      simp [putRow, mapBlock, Sort.ahead, Array.getElem?_modify, hg, onCells]
    have hgr : ∀ b, b < w.heap.size → (grow (putRow encStr (Sort.ahead w k) g off ys.toArray) os).heap[b]? = (putRow encStr (Sort.ahead w k) g off ys.toArray).heap[b]? := fun b hb => by
      show ((putRow encStr (Sort.ahead w k) g off ys.toArray).heap ++ os)[b]? = _
      rw [Array.getElem?_append_left (by rw [hsz]; exact hb)]
    refine ⟨⟨by rw [strs_len, hy, Nat.mul_one], .inr ⟨g, off, cap, (putCells encStr off ys.toArray ⟨cur⟩).toList, rfl, ?_, hn, hm, ?_, ?_⟩⟩, ⟨rfl, rfl, rfl, ?_, fun b hb hnb => ?_⟩⟩
    · rw [hgr g hlt, hput]
    · simpa [putCells] using hs
    · apply List.ext_getElem?
      intro j
      rw [List.getElem?_take, List.getElem?_drop, Array.getElem?_toList, ← strs_enc, List.getElem?_map]
      by_cases hj : j < n
      · have hjc : off + j < cur.length := by omega
        simp only [Nat.mul_one, if_pos hj, putCells, Array.getElem?_mapIdx]
        rw [show (Array.mk cur)[off + j]? = some cur[off + j] from by rw [show (Array.mk cur) = cur.toArray from rfl, List.getElem?_toArray]; exact List.getElem?_eq_getElem hjc]
        simp only [Option.map_some]
        rw [if_pos (by simp; omega), List.getElem?_eq_getElem (by omega)]
        simp [getElem!_pos, show j < ys.length by omega]
      · rw [if_neg (by omega), List.getElem?_eq_none (by omega)]
        rfl
    · show w.heap.size ≤ ((putRow encStr (Sort.ahead w k) g off ys.toArray).heap ++ os).size
      rw [Array.size_append, hsz]
      exact Nat.le_add_right _ _
    · rw [hgr b hb]
      have hne : ¬ g = b := fun e => hnb (by rw [← e]; exact List.mem_cons_self ..)
      simp [putRow, mapBlock, Sort.ahead, Array.getElem?_modify, hne]
theorem RowAt.holdsS {w : World} {e : TypeId} {g off n cap : Nat} {l : List (List UInt8)} (h : RowAt w e 1 (.slice (some ⟨g, off, none⟩) n cap) n (strs l)) (hl : l.length = n) : Holds encStr w g off l.toArray := by
  intro j hj
  have hj' : j < l.length := by simpa using hj
  rcases h.2 with ⟨e0, _⟩ | ⟨g', off', cap', cur, e0, hg, hn, hm, hs, ht⟩
  · cases e0
  · simp only [Value.slice.injEq, Option.some.injEq, Addr.mk.injEq, true_and, and_true] at e0
    obtain ⟨⟨rfl, rfl⟩, rfl⟩ := e0
    refine ⟨?_, by simp [World.frozen?, hg]⟩
    have hc := h.cells j (str l[j]) (by rw [strs_at hj'])
    rw [hc]
    simp [getElem!_pos, hj', encStr]
theorem sort_perm' {a b : List (List UInt8)} (h : a.Perm b) : a.mergeSort (fun x y => decide (x ≤ y)) = b.mergeSort (fun x y => decide (x ≤ y)) := mergeSort_of_perm h
/-- a row of texts sorted -/
theorem sort_c {A : Option Addr} {cap : Nat} {l : List (List UInt8)} {w0 : World} (hc : (Chunk.own (.slice A l.length cap) 9 1 l.length (strs l)).holds w0) (hi : inB (.own (.slice A l.length cap) 9 1 l.length (strs l)) w0) (hl : l.length ≤ 1099511627776) :
    Cal Tryz.prog 138 [.slice A l.length cap] w0 (fun v w' => v = .tuple #[] ∧ Mut w0 w' (.own (.slice A l.length cap) 9 1 l.length (strs l)) (.own (.slice A l.length cap) 9 1 l.length (strs (l.mergeSort (fun x y => decide (x ≤ y)))))) := by
  rcases l with _ | ⟨x, l⟩
  · exact ⟨by kernel_rfl, (AnyM.slices_Sort_string_none Tryz.sortL A cap w0).mono fun e w' ⟨h1, h2⟩ => ⟨_, h1, rfl, by rw [h2, List.mergeSort_nil]; exact ⟨.refl _ _, hc, fun b hb => .inl hb⟩⟩⟩
  · generalize hll : x :: l = ll at *
    have hpos : 0 < ll.length := by rw [← hll]; simp
    have hA : ∃ g off, A = some ⟨g, off, none⟩ := by
      rcases hc.2 with ⟨e0, hz⟩ | ⟨g, off, cap', cur, e0, _⟩
      · omega
      · simp only [Value.slice.injEq] at e0; exact ⟨g, off, e0.1⟩
    obtain ⟨g, off, rfl⟩ := hA
    have hg : g < w0.heap.size := hi g (by simp [Chunk.fp, Value.ownBlock])
    refine ⟨by kernel_rfl, (AnyM.slices_Sort_string Tryz.sortL g off cap ll w0 (RowAt.holdsS hc rfl) hg (by omega)).mono fun e w' ⟨h1, n, os, h2⟩ => ⟨_, h1, rfl, ?_⟩⟩
    subst h2
    have hlen : (ll.mergeSort (fun x y => decide (x ≤ y))).length = ll.length := (List.mergeSort_perm _ _).length_eq
    obtain ⟨r1, r2⟩ := RowAt.put hc (ll.mergeSort (fun x y => decide (x ≤ y))) hlen n os
    exact ⟨by simpa [Chunk.fp, Value.ownBlock] using r2, r1, fun b hb => .inl hb⟩
end Go.Proofs.YtccfiohagbneaaaGreatDoor

/- What is proved: the order of a list of items is the order in which the program looks at its items. Conditions: none. -/
set_option linter.unusedSimpArgs false
set_option linter.unusedVariables false
namespace Go.Proofs.YtccfiohagbneaaaGreatDoor
open Go Go.J Go.RowKit
theorem less_iff : ∀ {a b : List UInt8}, Op.bytesLess a b = true ↔ a < b
  | [], [] => by simp [Op.bytesLess]
  | _ :: _, [] => by simp [Op.bytesLess]
  | [], _ :: _ => by simp [Op.bytesLess]
  | x :: a, y :: b => by
    rw [List.cons_lt_cons_iff]
    unfold Op.bytesLess
    simp only [Bool.or_eq_true, decide_eq_true_eq, Bool.and_eq_true, beq_iff_eq]
    rw [less_iff]
theorem less_le {a b : List UInt8} (h : Op.bytesLess a b = true) : a ≤ b := by
  show ¬ b < a
  intro h2
  have h3 := less_iff.2 h2
  rw [less_asym h] at h3
  cases h3
theorem rise_paths {l : List Ri} (h : RiseG Ri.path Op.bytesLess l) : RiseG id Op.bytesLess (l.map Ri.path) := List.pairwise_map.2 h
/-- the paths of a list of items are the map's keys in their order -/
theorem RepL.keys {l : List Ri} {D : Dk} (h : RepL l D.items) : l.map Ri.path = D.keys := by
  have h1 : (l.map Ri.path).Nodup := h.rise.nodup bytesO
  have h2 : (l.map Ri.path).Perm (D.items.map Prod.fst) := (List.perm_ext_iff_of_nodup h1 h.nd).2 fun p => by
    constructor
    · intro hp
      obtain ⟨x, hx, rfl⟩ := List.mem_map.1 hp
      exact List.mem_map.2 ⟨_, mget_mem (h.mem hx), rfl⟩
    · intro hp
      obtain ⟨⟨q, i⟩, hx, rfl⟩ := List.mem_map.1 hp
      exact List.mem_map.2 ⟨_, h.at_ (mget_it h.nd hx), rfl⟩
  unfold Dk.keys
  rw [← sort_perm' h2, List.mergeSort_of_pairwise]
  exact (rise_paths h.rise).imp fun hh => decide_eq_true (less_le hh)
theorem keys_same {D E : Dk} (h : D.items.map Prod.fst = E.items.map Prod.fst) : D.keys = E.keys := by unfold Dk.keys; rw [h]
theorem set_keys {D : Dk} {p : List UInt8} {x : It} (h : p ∈ D.items.map Prod.fst) : (D.set p x).keys = D.keys := keys_same (by
  show (mset D.items p _).map Prod.fst = _
  rw [mset_keys, if_pos h])
end Go.Proofs.YtccfiohagbneaaaGreatDoor

/- What is proved: what the reference's disk does: Restart. Conditions: a disk of bounded size. -/
set_option linter.unusedSimpArgs false
set_option linter.unusedVariables false
namespace Go.Proofs.YtccfiohagbneaaaGreatDoor
open Go Go.J Go.RowKit
theorem shr_quo (x s : Int) (h : 0 ≤ s ∧ s ≤ 64) (hx : 0 ≤ x) : shrI .u64 x s = x / 2 ^ s.toNat := by
  unfold shrI
  rw [show min s.toNat IntKind.u64.bits = s.toNat by simp [IntKind.bits]; omega]
  exact Int.fdiv_eq_ediv_of_nonneg x (Int.le_of_lt (Int.pow_pos (by decide)))
theorem quo_wrap {x m : Int} (hx : 0 ≤ x) (hx2 : x < 18446744073709551616) (hm : 1 ≤ m) : IntKind.u64.wrap (x / m) = x / m := by
  have h1 := Int.ediv_nonneg hx (show 0 ≤ m by omega)
  have h2 : x / m ≤ x := Int.ediv_le_self m hx
  rw [IntKind.wrap_u64]
  omega
theorem wrap_in (y : Int) : 0 ≤ IntKind.u64.wrap y ∧ IntKind.u64.wrap y < 18446744073709551616 := by rw [IntKind.wrap_u64]; omega
set_option maxHeartbeats 4000000 in
set_option maxRecDepth 100000 in
theorem rmix_c (loss n : Int) (w0 : World) : Cal Tryz.prog 79 [.int .u64 loss, .int .u64 n] w0 (fun v w' => Upd [] w0 w' ∧ v = .int .u64 (mixE loss n)) := by
  refine Cal.mk' (by kernel_rfl) Tryz.func79 rfl rfl fun hS => ?_
  have e1 := fun y => shr_quo (IntKind.u64.wrap y) 30 (by decide) (wrap_in y).1
  have e2 := fun y => shr_quo (IntKind.u64.wrap y) 27 (by decide) (wrap_in y).1
  have e3 := fun y => shr_quo (IntKind.u64.wrap y) 31 (by decide) (wrap_in y).1
  unfold mixE mixS
  rw [e1, e2, e3]
  clear e1 e2 e3
  repeat' (first
    | (show WL _ _ _ _ _ _ _; first
      | refine WL.pure rfl rfl rfl rfl ?_
      | refine WL.nil ?_
      | (refine WL.quoK (b := 1073741824) rfl rfl rfl (wrap_in _).1 (by decide) (quo_wrap (wrap_in _).1 (wrap_in _).2 (by decide)) rfl rfl rfl ?_)
      | (refine WL.quoK (b := 134217728) rfl rfl rfl (wrap_in _).1 (by decide) (quo_wrap (wrap_in _).1 (wrap_in _).2 (by decide)) rfl rfl rfl ?_)
      | (refine WL.quoK (b := 2147483648) rfl rfl rfl (wrap_in _).1 (by decide) (quo_wrap (wrap_in _).1 (wrap_in _).2 (by decide)) rfl rfl rfl ?_))
    | (show WC _ _ _ _ _ _; first
      | refine WC.seq ?_
      | refine WC.region ?_
      | refine WC.ret ?_)
    | refine seqQ_n ?_)
  exact fin1r rfl rfl ⟨hS.upd, rfl⟩
set_option maxHeartbeats 32000000 in
set_option maxRecDepth 100000 in
theorem rfrestart_c {dk : Nat} {D : Dk} {fp : List Nat} (loss : Int) {w0 : World} (hi : InL w0 [rfC dk D fp]) (hk : D.Kp 1099511627776) (hn : D.items.length ≤ 1048576) :
    Cal Tryz.prog 21 [.pointer (some ⟨dk, 0, none⟩), .int .i64 loss] w0 (fun v w' => v = .int .i64 0 ∧ ∃ fp', MutL w0 w' [rfC dk D fp] [rfC dk (D.restart loss) fp']) := by
  refine Cal.mkL hi (by kernel_rfl) Tryz.func21 rfl rfl fun hS => ?_
  obtain ⟨_, ⟨A, cap, l, hR, rfl⟩, hfp, hS⟩ := St.objOpen hS
  replace hS : St w0 _ w0 (rfL dk A cap l D) _ := hS
  have hkl : D.keys.length = D.items.length := by unfold Dk.keys; rw [(List.mergeSort_perm _ _).length_eq, List.length_map]
  repeat' (first
    | (show WL _ _ _ _ _ _ _; first
      | refine WL.pure rfl rfl rfl rfl ?_
      | refine WL.nil ?_)
    | (show WC _ _ _ _ _ _; first
      | refine WC.seq ?_
      | refine WC.region ?_
      | refine WC.block ?_)
    | refine seqQ_n ?_)
  refine WC.loop (σ := Nat × Int × Dk × Option Addr × Nat × List Ri) [0, 1] (fun (k, n, _) => [(5, .int .i64 n), (6, .int .i64 (k : Int))])
    (fun (k, n, E, A, cap, l) w => k ≤ D.items.length ∧ 0 ≤ n ∧ n ≤ k ∧ E.Kp 1099511627776 ∧ (D.keys.drop k).foldl (lose1 loss) (n, E) = D.lose loss ∧ E.keys = D.keys ∧ RepL l E.items ∧ St w0 _ w (rfL dk A cap l E) _)
    (fun (k, _) => D.items.length - k) (0, 0, D, A, cap, l) ⟨Nat.zero_le _, Int.le_refl _, Int.le_refl _, hk, rfl, rfl, hR, hS⟩ ⟨rfl, rfl, trivial⟩ ?_
  clear hS hR
  rintro ⟨k, n, E, A, cap, l⟩ g w ⟨hk', h0, hnk, hKp, hfold, hks, hR, hS⟩
  show WC _ _ _ (lf _ [(5, .int .i64 n), (6, .int .i64 (k : Int))] _ _) _ _
  have hpk := hR.keys
  rw [hks] at hpk
  have hll : l.length = D.items.length := by rw [← hkl, ← hpk, List.length_map]
  by_cases hlt : k < D.items.length
  · have hlt2 : k < D.keys.length := by omega
    have hlt3 : k < l.length := by omega
    obtain ⟨kg, ko, rfl⟩ := hS.own_addr (A := A) (n := l.length) (by repeat (first | exact List.Mem.head _ | apply List.Mem.tail)) (by omega)
    have hstep : D.keys.drop k = D.keys[k] :: D.keys.drop (k + 1) := List.drop_eq_getElem_cons hlt2
    rw [hstep, List.foldl_cons] at hfold
    have hpe : l[k].path = D.keys[k] := by
      have := List.getElem_map Ri.path (l := l) (i := k) (h := by simpa using hlt3)
      rw [← this]
      simp only [hpk]
    have hg := hR.mem (List.getElem_mem hlt3)
    rw [hpe] at hg
    have hli : l[k]? = some ⟨D.keys[k], l[k].it⟩ := by
      rw [List.getElem?_eq_getElem hlt3, ← hpe]
    have hmem : D.keys[k] ∈ E.items.map Prod.fst := List.mem_map.2 ⟨_, mget_mem hg, rfl⟩
    have hEat : E.at D.keys[k] = l[k].it := by unfold Dk.at; rw [hg]; rfl
    clear hstep hpe hpk hg
    generalize D.keys[k] = p at *
    have hat := hKp.at_ p
    have hKp' := lose1_Kp (loss := loss) (s := (n, E)) (p := p) hKp
    have hl1 : lose1 loss (n, E) p = if (E.at p).loose then (n + 1, E.set p { E.at p with data := loseK loss (n + 1) (E.at p), kept := loseK loss (n + 1) (E.at p), loose := false, anew := false }) else (n, E) := rfl
    rw [hl1] at hfold hKp'
    clear hl1
    rw [hEat] at hfold hKp' hat
    generalize l[k].it = it at *
    obtain ⟨dir, dat, kept, loose, anew, stamp⟩ := it
    dsimp only at hfold hKp' hat
    have hpk := mixE_in (IntKind.u64.wrap loss) (n + 1)
    rw [← hll] at hn hlt
    cases loose with
    | false =>
      rw [if_neg (by decide)] at hfold hKp'
      repeat' (first
        | (show WL _ _ _ _ _ _ _; first
          | refine WL.pure rfl rfl rfl rfl ?_
          | refine WL.nil ?_
          | refine WL.load hS rfl rfl (LdOk.box (by repeat (first | exact List.Mem.head _ | apply List.Mem.tail)) rfl) rfl rfl rfl ?_
          | refine WL.add rfl rfl rfl (by omega) rfl rfl rfl ?_
          | (refine WL.load (v := .agg ⟨[str p, .bool dir, str dat, str kept, .bool false, .bool anew, .int .i64 stamp]⟩) hS rfl rfl (LdOk.ownElemE (enc := encRi) (k := k) (fun _ => rfl) (by repeat (first | exact List.Mem.head _ | apply List.Mem.tail)) hli rfl rfl) rfl rfl rfl ?_)
          | (refine WL.store hS rfl rfl rfl (by repeat (first | exact StB.here rfl | apply StB.there)) rfl rfl rfl ?_; intro w hS)
          | (refine WL.alloc hS rfl rfl rfl rfl rfl rfl ?_; intro w b hS)
          | refine WL.index rfl rfl rfl rfl (by first | with_reducible assumption | omega) rfl rfl rfl rfl ?_)
        | (show WC _ _ _ _ _ _; first
          | refine WC.seq ?_
          | refine WC.region ?_
          | refine WC.block ?_
          | refine WC.skip ?_
          | refine WC.exit ?_
          | refine WC.condT rfl (by decide) ?_
          | refine WC.condT rfl (decide_eq_true (by first | with_reducible assumption | omega)) ?_)
        | refine seqQ_n ?_
        | refine seqQ_x ?_
        | refine blkQ_hit rfl ?_)
      exact rndQ_n (k + 1, n, E, some ⟨kg, ko, none⟩, cap, l) ⟨by omega, h0, by show n ≤ ((k + 1 : Nat) : Int); omega, hKp, hfold, hks, hR, hS.droplast2 (by repeat (first | exact Pulls.nil | (apply Pulls.cons; focus (repeat (first | exact Pull.here | apply Pull.there)))))⟩ (by show D.items.length - (k + 1) < D.items.length - k; omega) ⟨rfl, vint (by omega), trivial⟩ ⟨rfl, rfl, trivial⟩
    | true =>
      rw [if_pos rfl] at hfold hKp'
      cases anew with
      | true =>
        have he0 := Int.emod_nonneg (mixE (IntKind.u64.wrap loss) (n + 1)) (show ((dat.length : Int) + 2) ≠ 0 by omega)
        have he1 := Int.emod_lt_of_pos (mixE (IntKind.u64.wrap loss) (n + 1)) (show (0 : Int) < (dat.length : Int) + 2 by omega)
        obtain ⟨mm, hmm⟩ : ∃ mm : Nat, mixE (IntKind.u64.wrap loss) (n + 1) % ((dat.length : Int) + 2) = (mm : Int) := ⟨_, (Int.toNat_of_nonneg he0).symm⟩
        rw [hmm] at he0 he1
        have hK : loseK loss (n + 1) ⟨dir, dat, kept, true, true, stamp⟩ = if 0 < mm then dat.take (mm - 1) else kept := by
          unfold loseK
          rw [if_pos rfl]
          dsimp only
          rw [hmm]
          by_cases hz : 0 < mm
          · rw [if_pos (by omega), if_pos hz]; congr 1; omega
          · rw [if_neg (by omega), if_neg hz]
        rw [hK] at hfold hKp'
        clear hK
        by_cases hz : 0 < mm
        · have hm1 : (mm : Int) - 1 = ((mm - 1 : Nat) : Int) := by omega
          rw [if_pos hz] at hfold hKp'
          repeat' (first
            | (show WL _ _ _ _ _ _ _; first
              | (refine WL.convU rfl rfl rfl (by omega) rfl rfl rfl ?_)
              | (refine WL.sub (a := (mm : Int)) (b := 1) rfl rfl rfl (by omega) rfl rfl rfl ?_; rw [hm1])
              | refine WL.pure rfl rfl rfl rfl ?_
              | refine WL.nil ?_
              | refine WL.load hS rfl rfl (LdOk.box (by repeat (first | exact List.Mem.head _ | apply List.Mem.tail)) rfl) rfl rfl rfl ?_
              | refine WL.add rfl rfl rfl (by omega) rfl rfl rfl ?_
              | (refine WL.highS (j := mm - 1) rfl rfl rfl rfl (by omega) rfl rfl rfl ?_)
              | (refine WL.load (v := .agg ⟨[str p, .bool dir, str dat, str kept, .bool true, .bool true, .int .i64 stamp]⟩) hS rfl rfl (LdOk.ownElemE (enc := encRi) (k := k) (fun _ => rfl) (by repeat (first | exact List.Mem.head _ | apply List.Mem.tail)) hli rfl rfl) rfl rfl rfl ?_)
              | (refine WL.calls hS rfl rfl (rmix_c (IntKind.u64.wrap loss) (n + 1) _) rfl rfl rfl ?_; rintro v w rfl hS)
              | (refine WL.remU rfl rfl rfl (by omega) (by omega) rfl rfl rfl ?_; rw [hmm])
              | (refine WL.callL (D := rfL dk (some ⟨kg, ko, none⟩) cap l E) hS (by repeat (first | exact Pulls.nil | (apply Pulls.cons; focus (repeat (first | exact Pull.here | apply Pull.there))))) rfl rfl (fun hI => rfstamped_c ⟨p, ⟨dir, dat.take (mm - 1), dat.take (mm - 1), false, false, stamp⟩⟩ hI) rfl rfl rfl ?_; rintro v w ⟨rfl, hm⟩ hS; replace hS := hS _ hm; clear hm)
              | (refine WL.callL (D := rfL dk (some ⟨kg, ko, none⟩) cap l { E with stamps := IntKind.i64.wrap (E.stamps + 1) }) hS (by repeat (first | exact Pulls.nil | (apply Pulls.cons; focus (repeat (first | exact Pull.here | apply Pull.there))))) rfl rfl (fun hI => rfput_c ⟨p, ⟨dir, dat.take (mm - 1), dat.take (mm - 1), false, false, IntKind.i64.wrap (E.stamps + 1)⟩⟩ (D := { E with stamps := IntKind.i64.wrap (E.stamps + 1) }) hR hI hn) rfl rfl rfl ?_; rintro v w ⟨rfl, A', cap', l', hR', hm⟩ hS; replace hS := hS _ hm; clear hm)
              | refine WL.conv64 rfl rfl rfl (by omega) rfl rfl rfl ?_
              | (refine WL.store hS rfl rfl rfl (by repeat (first | exact StB.here rfl | apply StB.there)) rfl rfl rfl ?_; intro w hS)
              | (refine WL.alloc hS rfl rfl rfl rfl rfl rfl ?_; intro w b hS)
              | refine WL.index rfl rfl rfl rfl (by first | with_reducible assumption | omega) rfl rfl rfl rfl ?_)
            | (show WC _ _ _ _ _ _; first
              | refine WC.seq ?_
              | refine WC.region ?_
              | refine WC.block ?_
              | refine WC.skip ?_
              | refine WC.condT rfl (by with_reducible rfl) ?_
              | refine WC.condF rfl (by decide) ?_
              | refine WC.condT rfl (decide_eq_true (by first | with_reducible assumption | omega)) ?_)
            | refine seqQ_n ?_
            | refine blkQ_n ?_)
          exact rndQ_n (k + 1, n + 1, E.set p ⟨dir, dat.take (mm - 1), dat.take (mm - 1), false, false, stamp⟩, A', cap', l') ⟨by omega, by show 0 ≤ n + 1; omega, by show n + 1 ≤ ((k + 1 : Nat) : Int); omega, hKp', hfold, (set_keys hmem).trans hks, hR', hS.droplast2 (by repeat (first | exact Pulls.nil | (apply Pulls.cons; focus (repeat (first | exact Pull.here | apply Pull.there)))))⟩ (by show D.items.length - (k + 1) < D.items.length - k; omega) ⟨rfl, vint (by omega), trivial⟩ ⟨rfl, rfl, trivial⟩
        · rw [if_neg hz] at hfold hKp'
          repeat' (first
            | (show WL _ _ _ _ _ _ _; first
              | (refine WL.convU rfl rfl rfl (by omega) rfl rfl rfl ?_)
              | refine WL.pure rfl rfl rfl rfl ?_
              | refine WL.nil ?_
              | refine WL.load hS rfl rfl (LdOk.box (by repeat (first | exact List.Mem.head _ | apply List.Mem.tail)) rfl) rfl rfl rfl ?_
              | refine WL.add rfl rfl rfl (by omega) rfl rfl rfl ?_
              | (refine WL.load (v := .agg ⟨[str p, .bool dir, str dat, str kept, .bool true, .bool true, .int .i64 stamp]⟩) hS rfl rfl (LdOk.ownElemE (enc := encRi) (k := k) (fun _ => rfl) (by repeat (first | exact List.Mem.head _ | apply List.Mem.tail)) hli rfl rfl) rfl rfl rfl ?_)
              | (refine WL.calls hS rfl rfl (rmix_c (IntKind.u64.wrap loss) (n + 1) _) rfl rfl rfl ?_; rintro v w rfl hS)
              | (refine WL.remU rfl rfl rfl (by omega) (by omega) rfl rfl rfl ?_; rw [hmm])
              | (refine WL.callL (D := rfL dk (some ⟨kg, ko, none⟩) cap l E) hS (by repeat (first | exact Pulls.nil | (apply Pulls.cons; focus (repeat (first | exact Pull.here | apply Pull.there))))) rfl rfl (fun hI => rfstamped_c ⟨p, ⟨dir, kept, kept, false, false, stamp⟩⟩ hI) rfl rfl rfl ?_; rintro v w ⟨rfl, hm⟩ hS; replace hS := hS _ hm; clear hm)
              | (refine WL.callL (D := rfL dk (some ⟨kg, ko, none⟩) cap l { E with stamps := IntKind.i64.wrap (E.stamps + 1) }) hS (by repeat (first | exact Pulls.nil | (apply Pulls.cons; focus (repeat (first | exact Pull.here | apply Pull.there))))) rfl rfl (fun hI => rfput_c ⟨p, ⟨dir, kept, kept, false, false, IntKind.i64.wrap (E.stamps + 1)⟩⟩ (D := { E with stamps := IntKind.i64.wrap (E.stamps + 1) }) hR hI hn) rfl rfl rfl ?_; rintro v w ⟨rfl, A', cap', l', hR', hm⟩ hS; replace hS := hS _ hm; clear hm)
              | refine WL.conv64 rfl rfl rfl (by omega) rfl rfl rfl ?_
              | (refine WL.store hS rfl rfl rfl (by repeat (first | exact StB.here rfl | apply StB.there)) rfl rfl rfl ?_; intro w hS)
              | (refine WL.alloc hS rfl rfl rfl rfl rfl rfl ?_; intro w b hS)
              | refine WL.index rfl rfl rfl rfl (by first | with_reducible assumption | omega) rfl rfl rfl rfl ?_)
            | (show WC _ _ _ _ _ _; first
              | refine WC.seq ?_
              | refine WC.region ?_
              | refine WC.block ?_
              | refine WC.skip ?_
              | refine WC.condT rfl (by with_reducible rfl) ?_
              | refine WC.condF rfl (by decide) ?_
              | refine WC.condT rfl (decide_eq_true (by first | with_reducible assumption | omega)) ?_
              | refine WC.condF rfl (decide_eq_false (by first | with_reducible assumption | omega)) ?_)
            | refine seqQ_n ?_
            | refine blkQ_n ?_)
          exact rndQ_n (k + 1, n + 1, E.set p ⟨dir, kept, kept, false, false, stamp⟩, A', cap', l') ⟨by omega, by show 0 ≤ n + 1; omega, by show n + 1 ≤ ((k + 1 : Nat) : Int); omega, hKp', hfold, (set_keys hmem).trans hks, hR', hS.droplast2 (by repeat (first | exact Pulls.nil | (apply Pulls.cons; focus (repeat (first | exact Pull.here | apply Pull.there)))))⟩ (by show D.items.length - (k + 1) < D.items.length - k; omega) ⟨rfl, vint (by omega), trivial⟩ ⟨rfl, rfl, trivial⟩
      | false =>
        have hkd := hat.2.2 rfl rfl
        have he0 := Int.emod_nonneg (mixE (IntKind.u64.wrap loss) (n + 1)) (show ((dat.length : Int) - kept.length + 1) ≠ 0 by omega)
        have he1 := Int.emod_lt_of_pos (mixE (IntKind.u64.wrap loss) (n + 1)) (show (0 : Int) < (dat.length : Int) - kept.length + 1 by omega)
        obtain ⟨mm, hmm⟩ : ∃ mm : Nat, mixE (IntKind.u64.wrap loss) (n + 1) % ((dat.length : Int) - kept.length + 1) = (mm : Int) := ⟨_, (Int.toNat_of_nonneg he0).symm⟩
        rw [hmm] at he0 he1
        have hK : loseK loss (n + 1) ⟨dir, dat, kept, true, false, stamp⟩ = dat.take (kept.length + mm) := by
          unfold loseK
          rw [if_neg (show ¬ false = true by decide)]
          dsimp only
          rw [hmm]
          congr 1
        rw [hK] at hfold hKp'
        clear hK
        repeat' (first
          | (show WL _ _ _ _ _ _ _; first
            | (refine WL.convU rfl rfl rfl (by omega) rfl rfl rfl ?_)
            | refine WL.pure rfl rfl rfl rfl ?_
            | refine WL.nil ?_
            | refine WL.load hS rfl rfl (LdOk.box (by repeat (first | exact List.Mem.head _ | apply List.Mem.tail)) rfl) rfl rfl rfl ?_
            | refine WL.add rfl rfl rfl (by omega) rfl rfl rfl ?_
            | refine WL.sub rfl rfl rfl (by omega) rfl rfl rfl ?_
            | (refine WL.highS (j := kept.length + mm) rfl rfl rfl (by first | rfl | exact vint (show _ = ((kept.length + mm : Nat) : Int) by omega)) (by omega) rfl rfl rfl ?_)
            | (refine WL.load (v := .agg ⟨[str p, .bool dir, str dat, str kept, .bool true, .bool false, .int .i64 stamp]⟩) hS rfl rfl (LdOk.ownElemE (enc := encRi) (k := k) (fun _ => rfl) (by repeat (first | exact List.Mem.head _ | apply List.Mem.tail)) hli rfl rfl) rfl rfl rfl ?_)
            | (refine WL.calls hS rfl rfl (rmix_c (IntKind.u64.wrap loss) (n + 1) _) rfl rfl rfl ?_; rintro v w rfl hS)
            | (refine WL.remU rfl rfl rfl (by omega) (by omega) rfl rfl rfl ?_; rw [hmm])
            | (refine WL.callL (D := rfL dk (some ⟨kg, ko, none⟩) cap l E) hS (by repeat (first | exact Pulls.nil | (apply Pulls.cons; focus (repeat (first | exact Pull.here | apply Pull.there))))) rfl rfl (fun hI => rfstamped_c ⟨p, ⟨dir, dat.take (kept.length + mm), dat.take (kept.length + mm), false, false, stamp⟩⟩ hI) rfl rfl rfl ?_; rintro v w ⟨rfl, hm⟩ hS; replace hS := hS _ hm; clear hm)
            | (refine WL.callL (D := rfL dk (some ⟨kg, ko, none⟩) cap l { E with stamps := IntKind.i64.wrap (E.stamps + 1) }) hS (by repeat (first | exact Pulls.nil | (apply Pulls.cons; focus (repeat (first | exact Pull.here | apply Pull.there))))) rfl rfl (fun hI => rfput_c ⟨p, ⟨dir, dat.take (kept.length + mm), dat.take (kept.length + mm), false, false, IntKind.i64.wrap (E.stamps + 1)⟩⟩ (D := { E with stamps := IntKind.i64.wrap (E.stamps + 1) }) hR hI hn) rfl rfl rfl ?_; rintro v w ⟨rfl, A', cap', l', hR', hm⟩ hS; replace hS := hS _ hm; clear hm)
            | refine WL.conv64 rfl rfl rfl (by omega) rfl rfl rfl ?_
            | (refine WL.store hS rfl rfl rfl (by repeat (first | exact StB.here rfl | apply StB.there)) rfl rfl rfl ?_; intro w hS)
            | (refine WL.alloc hS rfl rfl rfl rfl rfl rfl ?_; intro w b hS)
            | refine WL.index rfl rfl rfl rfl (by first | with_reducible assumption | omega) rfl rfl rfl rfl ?_)
          | (show WC _ _ _ _ _ _; first
            | refine WC.seq ?_
            | refine WC.region ?_
            | refine WC.block ?_
            | refine WC.skip ?_
            | refine WC.condF rfl (by with_reducible rfl) ?_
            | refine WC.condF rfl (by decide) ?_
            | refine WC.condT rfl (decide_eq_true (by first | with_reducible assumption | omega)) ?_)
          | refine seqQ_n ?_
          | refine blkQ_n ?_)
        exact rndQ_n (k + 1, n + 1, E.set p ⟨dir, dat.take (kept.length + mm), dat.take (kept.length + mm), false, false, stamp⟩, A', cap', l') ⟨by omega, by show 0 ≤ n + 1; omega, by show n + 1 ≤ ((k + 1 : Nat) : Int); omega, hKp', hfold, (set_keys hmem).trans hks, hR', hS.droplast2 (by repeat (first | exact Pulls.nil | (apply Pulls.cons; focus (repeat (first | exact Pull.here | apply Pull.there)))))⟩ (by show D.items.length - (k + 1) < D.items.length - k; omega) ⟨rfl, vint (by omega), trivial⟩ ⟨rfl, rfl, trivial⟩
  · have hke : k = D.items.length := by omega
    subst hke
    rw [← hkl, List.drop_length, List.foldl_nil] at hfold
    rw [← hll] at hn
    have hE : { E with down := false, armed := -1 } = D.restart loss := by unfold Dk.restart; rw [← hfold]
    clear hfold hkl hpk
    have hll2 : (D.items.length : Int) = (l.length : Int) := by rw [hll]
    repeat' (first
      | (show WL _ _ _ _ _ _ _; first
        | refine WL.pure rfl rfl rfl rfl ?_
        | refine WL.nil ?_
        | refine WL.load hS rfl rfl (LdOk.box (by repeat (first | exact List.Mem.head _ | apply List.Mem.tail)) rfl) rfl rfl rfl ?_
        | (refine WL.store hS rfl rfl rfl (by repeat (first | exact StB.here rfl | apply StB.there)) rfl rfl rfl ?_; intro w hS))
      | (show WC _ _ _ _ _ _; first
        | refine WC.seq ?_
        | refine WC.region ?_
        | refine WC.exit ?_
        | refine WC.ret ?_
        | refine WC.condF rfl (decide_eq_false (by first | with_reducible assumption | omega)) ?_)
      | refine seqQ_n ?_
      | refine seqQ_x ?_
      | refine blkQ_hit rfl ?_
      | refine rndQ_x ?_)
    have hS := St.objClose (φ := rfφ dk { E with down := false, armed := -1 }) (hS.pulls (D := rfL dk A cap l { E with down := false, armed := -1 }) (by repeat (first | exact Pulls.nil | (apply Pulls.cons; focus (repeat (first | exact Pull.here | apply Pull.there)))))) ⟨A, cap, l, hR, rfl⟩
    rw [hE] at hS
    exact fin1r rfl rfl ⟨rfl, _, hS.mutLp (by repeat (first | exact Pulls.nil | (apply Pulls.cons; focus (repeat (first | exact Pull.here | apply Pull.there)))))⟩
end Go.Proofs.YtccfiohagbneaaaGreatDoor

/- What is proved: what the reference's journal does: Fill, Reset, Add. Conditions: a disk without limits, of bounded size. -/
set_option linter.unusedSimpArgs false
set_option linter.unusedVariables false
namespace Go.Proofs.YtccfiohagbneaaaGreatDoor
open Go Go.J Go.RowKit
theorem mset_le {β : Type} (m : List (List UInt8 × β)) (p : List UInt8) (v : β) : (mset m p v).length ≤ m.length + 1 := by
  have h := congrArg List.length (mset_keys m p v)
  rw [List.length_map] at h
  rw [h]
  split
  · rw [List.length_map]; omega
  · rw [List.length_append, List.length_map]; exact Nat.le_refl _
theorem write_le (D : Dk) (p s : List UInt8) : (D.write p s).2.items.length ≤ D.items.length + 1 := by
  have hs := step_items D
  unfold Dk.write
  repeat' split
  all_goals first
    | (show D.items.length ≤ _; omega)
    | (show D.step.items.length ≤ _; rw [hs]; omega)
    | (show (mset D.step.items p _).length ≤ _; rw [hs]; exact mset_le _ _ _)
theorem sync_le (D : Dk) (p : List UInt8) : (D.sync p).2.items.length ≤ D.items.length + 1 := by
  have hs := step_items D
  unfold Dk.sync
  repeat' split
  all_goals first
    | (show D.items.length ≤ _; omega)
    | (show D.step.items.length ≤ _; rw [hs]; omega)
    | (show (mset D.step.items p _).length ≤ _; rw [hs]; exact mset_le _ _ _)
theorem append_le (D : Dk) (p s : List UInt8) : (D.append p s).2.items.length ≤ D.items.length + 1 := by
  have hs := step_items D
  unfold Dk.append
  repeat' split
  all_goals first
    | (show D.items.length ≤ _; omega)
    | (show D.step.items.length ≤ _; rw [hs]; omega)
    | (show (mset D.step.items p _).length ≤ _; rw [hs]; exact mset_le _ _ _)
set_option maxHeartbeats 8000000 in
set_option maxRecDepth 100000 in
theorem rffill_c {dk : Nat} {D : Dk} {fp : List Nat} (p s : List UInt8) {w0 : World} (hi : InL w0 [rfC dk D fp]) (hp : p.length ≤ 1099511620) (hn : D.items.length ≤ 1048570) (hno : D.Sm 1099511627776) (hs : s.length ≤ 1099511627776) :
    Cal Tryz.prog 69 [.pointer (some ⟨dk, 0, none⟩), str p, str s] w0 (fun v w' => v = .int .i64 (D.fill p s).1 ∧ ∃ fp', MutL w0 w' [rfC dk D fp] [rfC dk (D.fill p s).2 fp']) := by
  refine Cal.mkL hi (by kernel_rfl) Tryz.func69 rfl rfl fun hS => ?_
  have hl2 : (p ++ [95, 116]).length = p.length + 2 := by simp
  have hw := fun (w : World) (hI : InL w [rfC dk D fp]) => rfwrite_c (p ++ [95, 116]) s hI (by omega) (by omega) hs (hno.at_ _)
  have hm1 := hno.write (p := p ++ [95, 116]) hs
  have hn1 := write_le D (p ++ [95, 116]) s
  unfold Dk.fill
  generalize D.write (p ++ [95, 116]) s = r1 at *
  obtain ⟨e1, D1⟩ := r1
  dsimp only at hw hm1 hn1 ⊢
  have hy := fun (fp : List Nat) (w : World) (hI : InL w [rfC dk D1 fp]) => rfsync_c (p ++ [95, 116]) hI (by omega) (by omega)
  have hm2 := hm1.sync (p := p ++ [95, 116])
  have hn2 := sync_le D1 (p ++ [95, 116])
  generalize D1.sync (p ++ [95, 116]) = r2 at *
  obtain ⟨e2, D2⟩ := r2
  dsimp only at hy hm2 hn2 ⊢
  have hr := fun (fp : List Nat) (w : World) (hI : InL w [rfC dk D2 fp]) => rfrename_c (p ++ [95, 116]) p hI (by omega) (by omega) (by omega) (hm2.at_ _) (hm2.at_ _)
  generalize D2.rename (p ++ [95, 116]) p = r3 at *
  obtain ⟨e3, D3⟩ := r3
  dsimp only at hr ⊢
  generalize hpt : p ++ [95, 116] = pt at *
  by_cases h1 : e1 = 0
  · rw [if_neg (fun e => e h1)]
    by_cases h2 : e2 = 0
    · rw [if_neg (fun e => e h2)]
      subst h1 h2
      repeat' (first
        | (show WL _ _ _ _ _ _ _; first
          | refine WL.pure rfl rfl rfl rfl ?_
          | refine WL.nil ?_
          | (refine WL.cat rfl rfl rfl (by show _ + 2 ≤ _; omega) rfl rfl rfl ?_; rw [hpt])
          | (refine WL.callL (D := [rfC dk D fp]) hS (by repeat (first | exact Pulls.nil | (apply Pulls.cons; focus (repeat (first | exact Pull.here | apply Pull.there))))) rfl rfl (fun hI => hw _ hI) rfl rfl rfl ?_; rintro v w ⟨rfl, f1, hm⟩ hS; replace hS := hS _ hm; clear hm)
          | (refine WL.callL (D := [rfC dk D1 f1]) hS (by repeat (first | exact Pulls.nil | (apply Pulls.cons; focus (repeat (first | exact Pull.here | apply Pull.there))))) rfl rfl (fun hI => hy _ _ hI) rfl rfl rfl ?_; rintro v w ⟨rfl, f2, hm⟩ hS; replace hS := hS _ hm; clear hm)
          | (refine WL.callL (D := [rfC dk D2 f2]) hS (by repeat (first | exact Pulls.nil | (apply Pulls.cons; focus (repeat (first | exact Pull.here | apply Pull.there))))) rfl rfl (fun hI => hr _ _ hI) rfl rfl rfl ?_; rintro v w ⟨rfl, f3, hm⟩ hS; replace hS := hS _ hm; clear hm))
        | (show WC _ _ _ _ _ _; first
          | refine WC.seq ?_
          | refine WC.region ?_
          | refine WC.ret ?_
          | refine WC.condT rfl (by decide) ?_)
        | refine seqQ_n ?_)
      exact fin1r rfl rfl ⟨rfl, _, hS.mutLp (by repeat (first | exact Pulls.nil | (apply Pulls.cons; focus (repeat (first | exact Pull.here | apply Pull.there)))))⟩
    · rw [if_pos h2]
      subst h1
      repeat' (first
        | (show WL _ _ _ _ _ _ _; first
          | refine WL.pure rfl rfl rfl rfl ?_
          | refine WL.nil ?_
          | (refine WL.cat rfl rfl rfl (by show _ + 2 ≤ _; omega) rfl rfl rfl ?_; rw [hpt])
          | (refine WL.callL (D := [rfC dk D fp]) hS (by repeat (first | exact Pulls.nil | (apply Pulls.cons; focus (repeat (first | exact Pull.here | apply Pull.there))))) rfl rfl (fun hI => hw _ hI) rfl rfl rfl ?_; rintro v w ⟨rfl, f1, hm⟩ hS; replace hS := hS _ hm; clear hm)
          | (refine WL.callL (D := [rfC dk D1 f1]) hS (by repeat (first | exact Pulls.nil | (apply Pulls.cons; focus (repeat (first | exact Pull.here | apply Pull.there))))) rfl rfl (fun hI => hy _ _ hI) rfl rfl rfl ?_; rintro v w ⟨rfl, f2, hm⟩ hS; replace hS := hS _ hm; clear hm))
        | (show WC _ _ _ _ _ _; first
          | refine WC.seq ?_
          | refine WC.region ?_
          | refine WC.skip ?_
          | refine WC.ret ?_
          | refine WC.condT rfl (by decide) ?_
          | refine WC.condF rfl (decide_eq_false (by first | with_reducible assumption | omega)) ?_)
        | refine seqQ_n ?_)
      exact fin1r rfl rfl ⟨rfl, _, hS.mutLp (by repeat (first | exact Pulls.nil | (apply Pulls.cons; focus (repeat (first | exact Pull.here | apply Pull.there)))))⟩
  · rw [if_pos h1]
    repeat' (first
      | (show WL _ _ _ _ _ _ _; first
        | refine WL.pure rfl rfl rfl rfl ?_
        | refine WL.nil ?_
        | (refine WL.cat rfl rfl rfl (by show _ + 2 ≤ _; omega) rfl rfl rfl ?_; rw [hpt])
        | (refine WL.callL (D := [rfC dk D fp]) hS (by repeat (first | exact Pulls.nil | (apply Pulls.cons; focus (repeat (first | exact Pull.here | apply Pull.there))))) rfl rfl (fun hI => hw _ hI) rfl rfl rfl ?_; rintro v w ⟨rfl, f1, hm⟩ hS; replace hS := hS _ hm; clear hm))
      | (show WC _ _ _ _ _ _; first
        | refine WC.seq ?_
        | refine WC.region ?_
        | refine WC.skip ?_
        | refine WC.ret ?_
        | refine WC.condF rfl (decide_eq_false (by first | with_reducible assumption | omega)) ?_)
      | refine seqQ_n ?_)
    exact fin1r rfl rfl ⟨rfl, _, hS.mutLp (by repeat (first | exact Pulls.nil | (apply Pulls.cons; focus (repeat (first | exact Pull.here | apply Pull.there)))))⟩
def rlφ (L dk : Nat) (G : Lg) (D : List Chunk) : Prop := ∃ A cap, D = [.box L 60 [.pointer (some ⟨dk, 0, none⟩), str G.p, .slice A G.recs.length cap, .bool G.dmg], .own (.slice A G.recs.length cap) 9 1 G.recs.length (strs G.recs)]
/-- the document's journal -/
abbrev rlC (L dk : Nat) (G : Lg) (fp : List Nat) : Chunk := objC (rlφ L dk G) fp
set_option maxHeartbeats 8000000 in
set_option maxRecDepth 100000 in
theorem rlreset_c {L dk : Nat} {D : Dk} {G : Lg} {fp fq : List Nat} {w0 : World} (hi : InL w0 [rlC L dk G fp, rfC dk D fq]) (hp : G.p.length ≤ 1099511620) (hn : D.items.length ≤ 1048570) (hno : D.Sm 1099511627776) :
    Cal Tryz.prog 18 [.pointer (some ⟨L, 0, none⟩)] w0
      (fun v w' => v = .int .i64 (D.fill G.p []).1 ∧ ∃ fp' fq', MutL w0 w' [rlC L dk G fp, rfC dk D fq] [rlC L dk (G.reset (D.fill G.p []).1) fp', rfC dk (D.fill G.p []).2 fq']) := by
  refine Cal.mkL hi (by kernel_rfl) Tryz.func18 rfl rfl fun hS => ?_
  obtain ⟨_, ⟨A, cap, rfl⟩, hfp, hS⟩ := St.objOpen hS
  replace hS : St w0 _ w0 [.box L 60 [.pointer (some ⟨dk, 0, none⟩), str G.p, .slice A G.recs.length cap, .bool G.dmg], .own (.slice A G.recs.length cap) 9 1 G.recs.length (strs G.recs), rfC dk D fq] _ := hS
  have hf := fun (w : World) (hI : InL w [rfC dk D fq]) => rffill_c G.p [] hI hp hn hno (by simp)
  generalize D.fill G.p [] = r at *
  obtain ⟨e, D1⟩ := r
  dsimp only at hf ⊢
  by_cases he : e = 0
  · have hR : G.reset e = { G with recs := [] } := by unfold Lg.reset; rw [if_pos he]
    rw [hR]
    repeat' (first
      | (show WL _ _ _ _ _ _ _; first
        | refine WL.pure rfl rfl rfl rfl ?_
        | refine WL.nil ?_
        | (refine WL.store hS rfl rfl rfl (by repeat (first | exact StB.here rfl | apply StB.there)) rfl rfl rfl ?_; intro w hS))
      | (show WC _ _ _ _ _ _; first
        | refine WC.seq ?_
        | refine WC.region ?_
        | refine WC.ret ?_
        | (show WC _ _ (Code.region _ (List.toArray [_, _, _, _, _, _, _, _, _, _]) true) _ _ _; refine WC.drawL [rfC dk D fq] hS (by repeat (first | exact Pulls.nil | (apply Pulls.cons; focus (repeat (first | exact Pull.here | apply Pull.there))))) [0,1,2,3,4,5,6,7,9] [0,1,2,3,4,5,6,7,8,9] (by kernel_rfl) (by kernel_rfl) ?_; clear hS; intro w hS hM)
        | refine WC.condT rfl (decide_eq_true (by first | with_reducible assumption | omega)) ?_)
      | (show WD _ _ _ _ _ _ _ _ _; first
        | refine WD.pure rfl rfl rfl rfl rfl ?_
        | refine WD.nil ?_
        | refine WD.load rfl rfl (LdOk.box (by repeat (first | exact List.Mem.head _ | apply List.Mem.tail)) rfl) rfl rfl rfl rfl ?_
        | (refine WD.callL (D := [rfC dk D fq]) hS (by repeat (first | exact Pulls.nil | (apply Pulls.cons; focus (repeat (first | exact Pull.here | apply Pull.there))))) (.refl _ _) rfl rfl (fun hI => hf _ hI) rfl rfl rfl rfl rfl ?_; rintro v w ⟨rfl, f1, hm⟩; refine ⟨_, hm, fun hS hM => ?_⟩; clear hm))
      | refine seqQ_n ?_)
    have hS := hS.nilRow 9 1
    have hS := St.objClose (φ := rlφ L dk { G with recs := [] }) (hS.pulls (D := [.box L 60 [.pointer (some ⟨dk, 0, none⟩), str G.p, .slice none 0 0, .bool G.dmg], .own (.slice none 0 0) 9 1 0 []]) (by repeat (first | exact Pulls.nil | (apply Pulls.cons; focus (repeat (first | exact Pull.here | apply Pull.there)))))) ⟨none, 0, rfl⟩
    exact fin1r rfl rfl ⟨rfl, _, _, hS.mutLp (by repeat (first | exact Pulls.nil | (apply Pulls.cons; focus (repeat (first | exact Pull.here | apply Pull.there)))))⟩
  · have hR : G.reset e = G := by unfold Lg.reset; rw [if_neg he]
    rw [hR]
    repeat' (first
      | (show WL _ _ _ _ _ _ _; first
        | refine WL.pure rfl rfl rfl rfl ?_
        | refine WL.nil ?_)
      | (show WC _ _ _ _ _ _; first
        | refine WC.seq ?_
        | refine WC.region ?_
        | refine WC.skip ?_
        | refine WC.ret ?_
        | (show WC _ _ (Code.region _ (List.toArray [_, _, _, _, _, _, _, _, _, _]) true) _ _ _; refine WC.drawL [rfC dk D fq] hS (by repeat (first | exact Pulls.nil | (apply Pulls.cons; focus (repeat (first | exact Pull.here | apply Pull.there))))) [0,1,2,3,4,5,6,7,9] [0,1,2,3,4,5,6,7,8,9] (by kernel_rfl) (by kernel_rfl) ?_; clear hS; intro w hS hM)
        | refine WC.condF rfl (decide_eq_false (by first | with_reducible assumption | omega)) ?_)
      | (show WD _ _ _ _ _ _ _ _ _; first
        | refine WD.pure rfl rfl rfl rfl rfl ?_
        | refine WD.nil ?_
        | refine WD.load rfl rfl (LdOk.box (by repeat (first | exact List.Mem.head _ | apply List.Mem.tail)) rfl) rfl rfl rfl rfl ?_
        | (refine WD.callL (D := [rfC dk D fq]) hS (by repeat (first | exact Pulls.nil | (apply Pulls.cons; focus (repeat (first | exact Pull.here | apply Pull.there))))) (.refl _ _) rfl rfl (fun hI => hf _ hI) rfl rfl rfl rfl rfl ?_; rintro v w ⟨rfl, f1, hm⟩; refine ⟨_, hm, fun hS hM => ?_⟩; clear hm))
      | refine seqQ_n ?_)
    have hS := St.objClose (φ := rlφ L dk G) (hS.pulls (D := [.box L 60 [.pointer (some ⟨dk, 0, none⟩), str G.p, .slice A G.recs.length cap, .bool G.dmg], .own (.slice A G.recs.length cap) 9 1 G.recs.length (strs G.recs)]) (by repeat (first | exact Pulls.nil | (apply Pulls.cons; focus (repeat (first | exact Pull.here | apply Pull.there)))))) ⟨A, cap, rfl⟩
    exact fin1r rfl rfl ⟨rfl, _, _, hS.mutLp (by repeat (first | exact Pulls.nil | (apply Pulls.cons; focus (repeat (first | exact Pull.here | apply Pull.there)))))⟩
set_option maxHeartbeats 8000000 in
set_option maxRecDepth 100000 in
theorem rladd_c {L dk : Nat} {D D' : Dk} {G G' : Lg} {fp fq : List Nat} {w0 : World} {e : Int} (r : List UInt8) (hi : InL w0 [rlC L dk G fp, rfC dk D fq]) (hu : walAdd G D r = (e, G', D')) (hp : G.p.length ≤ 1099511620) (hn : D.items.length ≤ 1048570)
    (hr : r.length ≤ 1073741824) (hd : (D.at G.p).data.length ≤ 549755813888) (hnr : G.recs.length ≤ 4194304) :
    Cal Tryz.prog 16 [.pointer (some ⟨L, 0, none⟩), str r] w0
      (fun v w' => v = .int .i64 e ∧ ∃ fp' fq', MutL w0 w' [rlC L dk G fp, rfC dk D fq] [rlC L dk G' fp', rfC dk D' fq']) := by
  refine Cal.mkL hi (by kernel_rfl) Tryz.func16 rfl rfl fun hS => ?_
  obtain ⟨_, ⟨A, cap, rfl⟩, hfp, hS⟩ := St.objOpen hS
  replace hS : St w0 _ w0 [.box L 60 [.pointer (some ⟨dk, 0, none⟩), str G.p, .slice A G.recs.length cap, .bool G.dmg], .own (.slice A G.recs.length cap) 9 1 G.recs.length (strs G.recs), rfC dk D fq] _ := hS
  have hpl := packE_len r
  have hpn := putN_len10 (n := r.length) (by omega)
  have hA := fun (w : World) (hI : InL w [rfC dk D fq]) => rfappend_c G.p (packE r) hI (by omega) (by omega) (by omega)
  have hn1 := append_le D G.p (packE r)
  rcases h1 : D.append G.p (packE r) with ⟨e1, D1⟩
  rw [h1] at hA hn1
  dsimp only at hA hn1
  have hY := fun (f : List Nat) (w : World) (hI : InL w [rfC dk D1 f]) => rfsync_c G.p hI (by omega) (by omega)
  rcases h2 : D1.sync G.p with ⟨e2, D2⟩
  rw [h2] at hY
  dsimp only at hY
  have hu : (if e1 ≠ 0 then (e1, G, D1) else if e2 ≠ 0 then (e2, G, D2) else (0, G.push r, D2)) = (e, G', D') := by
    rw [← hu]; unfold walAdd; rw [h1]; dsimp only; rw [h2]
  clear h1 h2
  repeat' (first
    | (show WL _ _ _ _ _ _ _; first
      | refine WL.pure rfl rfl rfl rfl ?_
      | refine WL.nil ?_
      | refine WL.load hS rfl rfl (LdOk.box (by repeat (first | exact List.Mem.head _ | apply List.Mem.tail)) rfl) rfl rfl rfl ?_
      | (refine WL.app hS rfl rfl rfl rfl (RdOk.box (by repeat (first | exact List.Mem.head _ | apply List.Mem.tail))) rfl rfl (fun A' cap' => (by repeat (first | exact Repl.here | apply Repl.there))) (by omega) rfl rfl rfl ?_; intro A' cap' w hS)
      | (refine WL.store hS rfl rfl rfl (by repeat (first | exact StB.here rfl | apply StB.there)) rfl rfl rfl ?_; intro w hS)
      | (refine WL.slit hS rfl rfl rfl rfl rfl ?_; intro w b hS))
    | (show WC _ _ _ _ _ _; first
      | refine WC.seq ?_
      | refine WC.region ?_
      | refine WC.skip ?_
      | refine WC.ret ?_
      | (show WC _ _ (Code.region _ (List.toArray [_, _, _, _, _, _, _, _, _, _, _, _]) true) _ _ _; refine WC.drawL [rfC dk D fq] hS (by repeat (first | exact Pulls.nil | (apply Pulls.cons; focus (repeat (first | exact Pull.here | apply Pull.there))))) [0,1,2,3,4,5,6,7,8,11] [0,1,2,3,4,5,6,7,8,9,10,11] (by kernel_rfl) (by kernel_rfl) ?_; clear hS; intro w hS hM)
      | (show WC _ _ (Code.region _ (List.toArray [_, _, _, _, _, _, _, _, _, _]) true) _ _ _; refine WC.drawL [rfC dk D1 f1] hS (by repeat (first | exact Pulls.nil | (apply Pulls.cons; focus (repeat (first | exact Pull.here | apply Pull.there))))) [0,1,2,3,4,5,6,7,9] [0,1,2,3,4,5,6,7,8,9] (by kernel_rfl) (by kernel_rfl) ?_; clear hS; intro w hS hM)
      | refine WC.condF rfl (decide_eq_false (by first | with_reducible assumption | omega)) ?_
      | (refine WC.cond rfl (fun h => ?_) (fun h => ?_) <;> (try simp only [Classical.not_not, Bool.not_eq_true', Bool.not_eq_false', Bool.not_eq_eq_eq_not, Bool.not_true, Bool.not_false, beq_iff_eq, beq_eq_false_iff_ne, ne_eq, decide_eq_decide, decide_eq_true_eq, decide_eq_false_iff_not, Bool.and_eq_true, Bool.or_eq_true, Bool.and_eq_false_iff, Bool.or_eq_false_iff] at h) <;> (try (exfalso; first | omega | contradiction))))
    | (show WD _ _ _ _ _ _ _ _ _; first
      | refine WD.pure rfl rfl rfl rfl rfl ?_
      | refine WD.nil ?_
      | refine WD.load rfl rfl (LdOk.box (by repeat (first | exact List.Mem.head _ | apply List.Mem.tail)) rfl) rfl rfl rfl rfl ?_
      | (refine WD.calls hS hM rfl rfl (rpack_c r _ (by omega)) rfl rfl rfl rfl rfl ?_; clear hS; rintro v w rfl hS)
      | (refine WD.callL (D := [rfC dk D fq]) hS (by repeat (first | exact Pulls.nil | (apply Pulls.cons; focus (repeat (first | exact Pull.here | apply Pull.there))))) (.refl _ _) rfl rfl (fun hI => hA _ hI) rfl rfl rfl rfl rfl ?_; rintro v w ⟨rfl, f1, hm⟩; refine ⟨_, hm, fun hS hM => ?_⟩; clear hm)
      | (refine WD.callL (D := [rfC dk D1 f1]) hS (by repeat (first | exact Pulls.nil | (apply Pulls.cons; focus (repeat (first | exact Pull.here | apply Pull.there))))) (.refl _ _) rfl rfl (fun hI => hY _ _ hI) rfl rfl rfl rfl rfl ?_; rintro v w ⟨rfl, f2, hm⟩; refine ⟨_, hm, fun hS hM => ?_⟩; clear hm))
    | refine seqQ_n ?_)
  · rw [if_neg (fun hh => hh (by assumption)), if_neg (fun hh => hh (by assumption))] at hu
    cases hu
    have hS := St.objClose (φ := rlφ L dk (G.push r)) (hS.pulls (D := [.box L 60 [.pointer (some ⟨dk, 0, none⟩), str G.p, .slice A' (G.recs.length + 1) cap', .bool G.dmg], .own (.slice A' (G.recs.length + 1) cap') 9 1 (G.recs.length + 1) (strs G.recs ++ [str r])]) (by repeat (first | exact Pulls.nil | (apply Pulls.cons; focus (repeat (first | exact Pull.here | apply Pull.there)))))) ⟨A', cap', by simp [Lg.push, strs_snoc]⟩
    exact fin1r rfl rfl ⟨vint (by assumption), _, _, hS.mutLp (by repeat (first | exact Pulls.nil | (apply Pulls.cons; focus (repeat (first | exact Pull.here | apply Pull.there)))))⟩
  · rw [if_neg (fun hh => hh (by assumption)), if_pos h] at hu
    cases hu
    have hS := St.objClose (φ := rlφ L dk G) (hS.pulls (D := [.box L 60 [.pointer (some ⟨dk, 0, none⟩), str G.p, .slice A G.recs.length cap, .bool G.dmg], .own (.slice A G.recs.length cap) 9 1 G.recs.length (strs G.recs)]) (by repeat (first | exact Pulls.nil | (apply Pulls.cons; focus (repeat (first | exact Pull.here | apply Pull.there)))))) ⟨A, cap, rfl⟩
    exact fin1r rfl rfl ⟨rfl, _, _, hS.mutLp (by repeat (first | exact Pulls.nil | (apply Pulls.cons; focus (repeat (first | exact Pull.here | apply Pull.there)))))⟩
  · rw [if_pos h] at hu
    cases hu
    have hS := St.objClose (φ := rlφ L dk G) (hS.pulls (D := [.box L 60 [.pointer (some ⟨dk, 0, none⟩), str G.p, .slice A G.recs.length cap, .bool G.dmg], .own (.slice A G.recs.length cap) 9 1 G.recs.length (strs G.recs)]) (by repeat (first | exact Pulls.nil | (apply Pulls.cons; focus (repeat (first | exact Pull.here | apply Pull.there)))))) ⟨A, cap, rfl⟩
    exact fin1r rfl rfl ⟨rfl, _, _, hS.mutLp (by repeat (first | exact Pulls.nil | (apply Pulls.cons; focus (repeat (first | exact Pull.here | apply Pull.there)))))⟩
end Go.Proofs.YtccfiohagbneaaaGreatDoor

/- What is proved: what the reference's journal does: Open. Conditions: a disk without limits, of bounded size. -/
set_option linter.unusedSimpArgs false
set_option linter.unusedVariables false
namespace Go.Proofs.YtccfiohagbneaaaGreatDoor
open Go Go.J Go.RowKit
def RfIs (dk : Nat) (D : Dk) (w : World) : Prop := ∃ A cap l, RepL l D.items ∧ RfAt dk A cap l D w
theorem St.rfIs {w0 w : World} {M fp : List Nat} {H H' : List Chunk} {Z : List Snap} {dk : Nat} {D : Dk} (hS : St w0 M w H Z) (hp : Pulls [rfC dk D fp] H H') : RfIs dk D w := by
  have hS := hS.pulls hp
  obtain ⟨_, ⟨A, cap, l, hR, rfl⟩, hfp, hS⟩ := St.objOpen hS
  exact ⟨A, cap, l, hR, St.rfAt hS (by repeat (first | exact List.Mem.head _ | apply List.Mem.tail)) (by repeat (first | exact List.Mem.head _ | apply List.Mem.tail))⟩
theorem rfkindI_c {dk : Nat} {D : Dk} (p : List UInt8) {w0 : World} (h : RfIs dk D w0) (hn : D.items.length ≤ 1048576) : Cal Tryz.prog 63 [.pointer (some ⟨dk, 0, none⟩), str p] w0 (fun v w' => Upd [] w0 w' ∧ v = .int .i64 (D.kind p)) := by
  obtain ⟨A, cap, l, hR, hA⟩ := h
  exact rfkind_c p hR hA (by rw [hR.len]; exact hn)
theorem rfreadI_c {dk : Nat} {D : Dk} (p : List UInt8) {w0 : World} (h : RfIs dk D w0) (hn : D.items.length ≤ 1048576) : Cal Tryz.prog 28 [.pointer (some ⟨dk, 0, none⟩), str p] w0 (fun v w' => Upd [] w0 w' ∧ v = .tuple #[str (D.read p).1, .int .i64 (D.read p).2]) := by
  obtain ⟨A, cap, l, hR, hA⟩ := h
  exact rfread_c p hR hA (by rw [hR.len]; exact hn)
def rlopenR (dk : Nat) (D : Dk) (fq : List Nat) (w0 : World) (r : Int × Option Lg × Dk) (v : Value) (w' : World) : Prop :=
  match r with
  | (e, none, D') => v = .tuple #[.pointer none, .int .i64 e] ∧ ∃ fq', MutL w0 w' [rfC dk D fq] [rfC dk D' fq']
  | (e, some G, D') => ∃ L fp fq', v = .tuple #[.pointer (some ⟨L, 0, none⟩), .int .i64 e] ∧ MutL w0 w' [rfC dk D fq] [rlC L dk G fp, rfC dk D' fq']
set_option maxHeartbeats 16000000 in
set_option maxRecDepth 100000 in
theorem rlopen_c {dk : Nat} {D : Dk} {fq : List Nat} (p : List UInt8) {w0 : World} (hi : InL w0 [rfC dk D fq]) (hl : p.length ≤ 1099511620) (hno : D.Sm 1099511627776) (hn : D.items.length ≤ 1048570) :
    Cal Tryz.prog 14 [.pointer (some ⟨dk, 0, none⟩), str p] w0 (rlopenR dk D fq w0 (walOpen D p)) := by
  refine Cal.mkL hi (by kernel_rfl) Tryz.func14 rfl rfl fun hS => ?_
  have hkc := fun (w : World) (h : RfIs dk D w) => rfkindI_c p h (by omega)
  have hrc := fun (w : World) (h : RfIs dk D w) => rfreadI_c p h (by omega)
  by_cases hk : D.kind p = 0
  · have hf := fun (w : World) (hI : InL w [rfC dk D fq]) => rffill_c p [] hI hl hn hno (by simp)
    rcases hfe : D.fill p [] with ⟨e, D'⟩
    rw [hfe] at hf
    have hu : walOpen D p = if e ≠ 0 then (e, none, D') else (0, some ⟨p, [], false⟩, D') := by unfold walOpen; rw [if_pos hk, hfe]
    rw [hu]
    rw [hk] at hkc
    dsimp only at hf
    by_cases he : e = 0
    · rw [if_neg (fun x => x he)]
      subst he
      repeat' (first
        | (show WL _ _ _ _ _ _ _; first
          | refine WL.pure rfl rfl rfl rfl ?_
          | refine WL.nil ?_
          | (refine WL.calls hS rfl rfl (hkc _ (St.rfIs hS (by repeat (first | exact Pulls.nil | (apply Pulls.cons; focus (repeat (first | exact Pull.here | apply Pull.there))))))) rfl rfl rfl ?_; rintro v w rfl hS)
          | (refine WL.callL (D := [rfC dk D fq]) hS (by repeat (first | exact Pulls.nil | (apply Pulls.cons; focus (repeat (first | exact Pull.here | apply Pull.there))))) rfl rfl (fun hI => hf _ hI) rfl rfl rfl ?_; rintro v w ⟨rfl, f1, hm⟩ hS; replace hS := hS _ hm; clear hm)
          | (refine WL.box hS rfl rfl rfl rfl rfl ?_; intro w b hS)
          | refine WL.build rfl rfl rfl rfl rfl ?_)
        | (show WC _ _ _ _ _ _; first
          | refine WC.seq ?_
          | refine WC.region ?_
          | refine WC.skip ?_
          | refine WC.ret ?_
          | refine WC.condT rfl (by decide) ?_
          | refine WC.condF rfl (by decide) ?_)
        | refine seqQ_n ?_
        | refine seqQ_r ?_)
      have hS := hS.nilRow 9 1
      have hS := St.objClose (φ := rlφ b dk ⟨p, [], false⟩) (hS.pulls (D := [.box b 60 [.pointer (some ⟨dk, 0, none⟩), str p, .slice none 0 0, .bool false], .own (.slice none 0 0) 9 1 0 []]) (by repeat (first | exact Pulls.nil | (apply Pulls.cons; focus (repeat (first | exact Pull.here | apply Pull.there)))))) ⟨none, 0, rfl⟩
      exact fin2r rfl rfl rfl ⟨_, _, _, rfl, hS.mutLp (by repeat (first | exact Pulls.nil | (apply Pulls.cons; focus (repeat (first | exact Pull.here | apply Pull.there)))))⟩
    · rw [if_pos he]
      repeat' (first
        | (show WL _ _ _ _ _ _ _; first
          | refine WL.pure rfl rfl rfl rfl ?_
          | refine WL.nil ?_
          | (refine WL.calls hS rfl rfl (hkc _ (St.rfIs hS (by repeat (first | exact Pulls.nil | (apply Pulls.cons; focus (repeat (first | exact Pull.here | apply Pull.there))))))) rfl rfl rfl ?_; rintro v w rfl hS)
          | (refine WL.callL (D := [rfC dk D fq]) hS (by repeat (first | exact Pulls.nil | (apply Pulls.cons; focus (repeat (first | exact Pull.here | apply Pull.there))))) rfl rfl (fun hI => hf _ hI) rfl rfl rfl ?_; rintro v w ⟨rfl, f1, hm⟩ hS; replace hS := hS _ hm; clear hm)
          | (refine WL.box hS rfl rfl rfl rfl rfl ?_; intro w b hS)
          | refine WL.build rfl rfl rfl rfl rfl ?_)
        | (show WC _ _ _ _ _ _; first
          | refine WC.seq ?_
          | refine WC.region ?_
          | refine WC.ret ?_
          | refine WC.condT rfl (by decide) ?_
          | refine WC.condT rfl (decide_eq_true (by first | with_reducible assumption | omega)) ?_)
        | refine seqQ_n ?_
        | refine seqQ_r ?_)
      exact fin2r rfl rfl rfl ⟨rfl, _, hS.mutLp (by repeat (first | exact Pulls.nil | (apply Pulls.cons; focus (repeat (first | exact Pull.here | apply Pull.there)))))⟩
  · have hsm := hno.at_ p
    rcases hr : D.read p with ⟨s, er⟩
    have hsl : s.length ≤ 1099511627776 := by
      have : s = (D.read p).1 := by rw [hr]
      rw [this]
      unfold Dk.read
      repeat' split
      all_goals first | exact Nat.zero_le _ | exact hsm
    rcases hsc : scanE s with ⟨rs, g, e⟩
    have hg : g ≤ s.length := by have := scanE_le s; rwa [hsc] at this
    have hf := fun (w : World) (hI : InL w [rfC dk D fq]) => rffill_c p (s.take g) hI hl hn hno (by rw [List.length_take]; omega)
    rcases hfe : D.fill p (s.take g) with ⟨ef, D'⟩
    rw [hfe] at hf
    dsimp only at hf
    have hu : walOpen D p = if er ≠ 0 then (er, none, D) else if e ≠ 0 then (if ef ≠ 0 then (ef, none, D') else (0, some ⟨p, rs, decide (e = 6 ∨ e = 3)⟩, D')) else (0, some ⟨p, rs, decide (e = 6 ∨ e = 3)⟩, D) := by
      unfold walOpen; rw [if_neg hk, hr]; dsimp only; rw [hsc]; dsimp only; rw [hfe]
    rw [hu]
    rw [hr] at hrc
    dsimp only at hrc
    generalize D.kind p = kd at *
    clear hu hr hfe hsm
    by_cases h0 : er = 0
    · subst h0
      rw [if_neg (by decide)]
      have hcases : (e = 6 ∧ decide (e = 6 ∨ e = 3) = true) ∨ (e = 3 ∧ decide (e = 6 ∨ e = 3) = true) ∨ (e = 0 ∧ decide (e = 6 ∨ e = 3) = false) ∨ (e ≠ 6 ∧ e ≠ 3 ∧ e ≠ 0 ∧ decide (e = 6 ∨ e = 3) = false) := by
        by_cases h6 : e = 6
        · exact .inl ⟨h6, by simp [h6]⟩
        · by_cases h3 : e = 3
          · exact .inr (.inl ⟨h3, by simp [h3]⟩)
          · by_cases hz : e = 0
            · exact .inr (.inr (.inl ⟨hz, by simp [hz]⟩))
            · exact .inr (.inr (.inr ⟨h6, h3, hz, by simp [h6, h3]⟩))
      have hfs := fun (w : World) => rscan_c s w hsl
      rw [hsc] at hfs
      dsimp only at hfs
      clear hsc
      rcases hcases with ⟨rfl, hd⟩ | ⟨rfl, hd⟩ | ⟨rfl, hd⟩ | ⟨h6, h3, hz, hd⟩
      all_goals rw [hd]; clear hd
      all_goals
        repeat' (first
          | (show WL _ _ _ _ _ _ _; first
            | refine WL.pure rfl rfl rfl rfl ?_
            | refine WL.nil ?_
            | (refine WL.calls hS rfl rfl (hkc _ (St.rfIs hS (by repeat (first | exact Pulls.nil | (apply Pulls.cons; focus (repeat (first | exact Pull.here | apply Pull.there))))))) rfl rfl rfl ?_; rintro v w rfl hS)
            | (refine WL.calls hS rfl rfl (hrc _ (St.rfIs hS (by repeat (first | exact Pulls.nil | (apply Pulls.cons; focus (repeat (first | exact Pull.here | apply Pull.there))))))) rfl rfl rfl ?_; rintro v w rfl hS)
            | (refine WL.callG rfl rfl (hfs _) rfl rfl rfl ?_; rintro v w ⟨hupd, A, cap, rfl, hnew⟩; replace hS := hS.new hupd hnew; clear hnew hupd)
            | (refine WL.highS (j := g) rfl rfl rfl rfl hg rfl rfl rfl ?_)
            | (refine WL.callL (D := [rfC dk D fq]) hS (by repeat (first | exact Pulls.nil | (apply Pulls.cons; focus (repeat (first | exact Pull.here | apply Pull.there))))) rfl rfl (fun hI => hf _ hI) rfl rfl rfl ?_; rintro v w ⟨rfl, f1, hm⟩ hS; replace hS := hS _ hm; clear hm)
            | (refine WL.store hS rfl rfl rfl (by repeat (first | exact StB.here rfl | apply StB.there)) rfl rfl rfl ?_; intro w hS)
            | (refine WL.box hS rfl rfl rfl rfl rfl ?_; intro w b hS)
            | refine WL.skip rfl rfl rfl ?_
            | refine WL.build rfl rfl rfl rfl rfl ?_
            | ((fail_if_success (refine WL.wanted rfl ?_)); refine WL.guard rfl rfl rfl (fun h => ?_) (fun h => ?_) <;> (try simp only [Classical.not_not, Bool.not_eq_true', Bool.not_eq_false', Bool.not_eq_eq_eq_not, Bool.not_true, Bool.not_false, beq_iff_eq, beq_eq_false_iff_ne, ne_eq, decide_eq_decide, decide_eq_true_eq, decide_eq_false_iff_not, Bool.and_eq_true, Bool.or_eq_true, Bool.and_eq_false_iff, Bool.or_eq_false_iff] at h) <;> (try (exfalso; first | omega | contradiction))))
          | (show WC _ _ _ _ _ _; first
            | refine WC.seq ?_
            | refine WC.region ?_
            | refine WC.skip ?_
            | refine WC.ret ?_
            | refine WC.condT rfl (by decide) ?_
            | refine WC.condF rfl (by decide) ?_
            | refine WC.condT rfl (decide_eq_true (by first | with_reducible assumption | omega)) ?_
            | refine WC.condF rfl (decide_eq_false (by first | with_reducible assumption | omega)) ?_
            | (refine WC.cond rfl (fun h => ?_) (fun h => ?_) <;> (try simp only [Classical.not_not, Bool.not_eq_true', Bool.not_eq_false', Bool.not_eq_eq_eq_not, Bool.not_true, Bool.not_false, beq_iff_eq, beq_eq_false_iff_ne, ne_eq, decide_eq_decide, decide_eq_true_eq, decide_eq_false_iff_not, Bool.and_eq_true, Bool.or_eq_true, Bool.and_eq_false_iff, Bool.or_eq_false_iff] at h) <;> (try (exfalso; first | omega | contradiction))))
          | refine seqQ_n ?_
          | refine seqQ_r ?_)
      all_goals first
        | rw [if_pos (by first | decide | assumption), if_pos h]
          exact fin2r rfl rfl rfl ⟨rfl, _, hS.mutLp (by repeat (first | exact Pulls.nil | (apply Pulls.cons; focus (repeat (first | exact Pull.here | apply Pull.there)))))⟩
        | (first | rw [if_pos (by first | decide | assumption), if_neg (fun hh => hh h)] | rw [if_neg (by decide)])
          try rw [decide_eq_false h3] at hS
          have hS := St.objClose (φ := rlφ b dk ⟨p, rs, _⟩) (hS.pulls (D := [.box b 60 [.pointer (some ⟨dk, 0, none⟩), str p, .slice A rs.length cap, .bool _], .own (.slice A rs.length cap) 9 1 rs.length (strs rs)]) (by repeat (first | exact Pulls.nil | (apply Pulls.cons; focus (repeat (first | exact Pull.here | apply Pull.there)))))) ⟨A, cap, rfl⟩
          exact fin2r rfl rfl rfl ⟨_, _, _, rfl, hS.mutLp (by repeat (first | exact Pulls.nil | (apply Pulls.cons; focus (repeat (first | exact Pull.here | apply Pull.there)))))⟩
    · rw [if_pos h0]
      repeat' (first
        | (show WL _ _ _ _ _ _ _; first
          | refine WL.pure rfl rfl rfl rfl ?_
          | refine WL.nil ?_
          | (refine WL.calls hS rfl rfl (hkc _ (St.rfIs hS (by repeat (first | exact Pulls.nil | (apply Pulls.cons; focus (repeat (first | exact Pull.here | apply Pull.there))))))) rfl rfl rfl ?_; rintro v w rfl hS)
          | (refine WL.calls hS rfl rfl (hrc _ (St.rfIs hS (by repeat (first | exact Pulls.nil | (apply Pulls.cons; focus (repeat (first | exact Pull.here | apply Pull.there))))))) rfl rfl rfl ?_; rintro v w rfl hS)
          | (refine WL.box hS rfl rfl rfl rfl rfl ?_; intro w b hS)
          | refine WL.build rfl rfl rfl rfl rfl ?_)
        | (show WC _ _ _ _ _ _; first
          | refine WC.seq ?_
          | refine WC.region ?_
          | refine WC.skip ?_
          | refine WC.ret ?_
          | refine WC.condT rfl (decide_eq_true (by first | with_reducible assumption | omega)) ?_
          | refine WC.condF rfl (decide_eq_false (by first | with_reducible assumption | omega)) ?_)
        | refine seqQ_n ?_
        | refine seqQ_r ?_)
      exact fin2r rfl rfl rfl ⟨rfl, _, hS.mutLp (by repeat (first | exact Pulls.nil | (apply Pulls.cons; focus (repeat (first | exact Pull.here | apply Pull.there)))))⟩
end Go.Proofs.YtccfiohagbneaaaGreatDoor

/- What is proved: a disk that holds one journal only stays so, whatever is done, and grows slowly. Conditions: none. -/
set_option linter.unusedSimpArgs false
set_option linter.unusedVariables false
namespace Go.Proofs.YtccfiohagbneaaaGreatDoor
open Go Go.J Go.RowKit
abbrev tP : List UInt8 := [118, 47, 108, 111, 103, 95, 116]
def FitI (B : Nat) (x : It) : Prop := x.data.length ≤ B ∧ x.kept.length ≤ B ∧ (x.anew = false → x.kept.length ≤ x.data.length)
def onlyP (p : List UInt8) : Prop := p = vP ∨ p = lP ∨ p = tP
theorem mset_in {β : Type} : ∀ {m : List (List UInt8 × β)} {x : List UInt8} {v : β} {p : List UInt8 × β}, p ∈ mset m x v → p ∈ m ∨ p = (x, v)
  | [], x, v, p, h => .inr (by simpa [mset] using h)
  | (k, u) :: m, x, v, p, h => by
    unfold mset at h
    split at h
    · rename_i e
      rcases List.mem_cons.1 h with h | h
      · exact .inr (by rw [h, e])
      · exact .inl (List.mem_cons_of_mem _ h)
    · rcases List.mem_cons.1 h with h | h
      · exact .inl (by rw [h]; exact List.mem_cons_self ..)
      · rcases mset_in h with h | h
        · exact .inl (List.mem_cons_of_mem _ h)
        · exact .inr h
theorem few_len {α : Type} [DecidableEq α] : ∀ {l k : List α}, l.Nodup → (∀ x ∈ l, x ∈ k) → l.length ≤ k.length
  | [], _, _, _ => Nat.zero_le _
  | a :: l, k, hn, h => by
    rw [List.nodup_cons] at hn
    have h1 := few_len (l := l) (k := k.erase a) hn.2 fun x hx => by
      rw [List.mem_erase_of_ne]
      · exact h x (List.mem_cons_of_mem _ hx)
      · rintro rfl; exact hn.1 hx
    have h2 := List.length_erase_of_mem (h a (List.mem_cons_self ..))
    have h3 : 0 < k.length := List.length_pos_of_mem (h a (List.mem_cons_self ..))
    rw [List.length_cons]
    omega
/-- a disk of at most three items, each of bounded size -/
structure DPl (B : Nat) (D : Dk) : Prop where
  lim : D.limits = []
  nd : (D.items.map Prod.fst).Nodup
  only : ∀ x ∈ D.items, onlyP x.1
  fit : ∀ x ∈ D.items, FitI B x.2
theorem FitI.mono {B B' : Nat} {x : It} (h : FitI B x) (hB : B ≤ B') : FitI B' x := ⟨Nat.le_trans h.1 hB, Nat.le_trans h.2.1 hB, h.2.2⟩
theorem FitI.zero (B : Nat) : FitI B It0 := ⟨Nat.zero_le _, Nat.zero_le _, fun _ => Nat.le_refl _⟩
section
variable {B B' : Nat} {D : Dk}
theorem DPl.mono (h : DPl B D) (hB : B ≤ B') : DPl B' D := ⟨h.lim, h.nd, h.only, fun x hx => (h.fit x hx).mono hB⟩
theorem DPl.at_ (h : DPl B D) (p : List UInt8) : FitI B (D.at p) := by
  unfold Dk.at
  cases e : mget D.items p with
  | none => exact FitI.zero B
  | some x => exact h.fit _ (mget_mem e)
theorem DPl.like {E : Dk} (h : DPl B D) (h1 : E.limits = D.limits) (h2 : E.items = D.items) : DPl B E := by
  obtain ⟨a, b, c, d⟩ := h
  exact ⟨h1.trans a, by rw [h2]; exact b, by rw [h2]; exact c, by rw [h2]; exact d⟩
theorem DPl.put {E : Dk} (h : DPl B D) {p : List UInt8} {x : It} (hp : onlyP p) (hB : B ≤ B') (hx : FitI B' x) (h1 : E.limits = D.limits) (h2 : E.items = mset D.items p x) : DPl B' E := by
  refine ⟨h1.trans h.lim, by rw [h2]; exact mset_nodup h.nd _ _, ?_, ?_⟩
  · rw [h2]
    intro y hy
    rcases mset_in hy with h3 | h3
    · exact h.only y h3
    · rw [h3]; exact hp
  · rw [h2]
    intro y hy
    rcases mem_mset hy with h3 | h3
    · exact (h.fit y h3).mono hB
    · rw [h3]; exact hx
theorem DPl.step (h : DPl B D) : DPl B D.step := h.like (by unfold Dk.step; split <;> rfl) (step_items D)
theorem DPl.set (h : DPl B D) {p : List UInt8} {x : It} (hp : onlyP p) (hB : B ≤ B') (hx : FitI B' x) : DPl B' (D.set p x) := h.put hp hB (x := { x with stamp := IntKind.i64.wrap (D.stamps + 1) }) hx rfl rfl
theorem DPl.del (h : DPl B D) (p : List UInt8) : DPl B (D.del p) :=
  ⟨h.lim, mdel_nodup h.nd p, fun x hx => h.only x ((mdel_sub _ _).subset hx), fun x hx => h.fit x ((mdel_sub _ _).subset hx)⟩
theorem DPl.len (h : DPl B D) : D.items.length ≤ 3 := by
  have hs : (D.items.map Prod.fst) ⊆ [vP, lP, tP] := fun p hp => by
    obtain ⟨x, hx, rfl⟩ := List.mem_map.1 hp
    rcases h.only x hx with e | e | e <;> rw [e] <;> simp
  have := few_len h.nd fun x hx => hs hx
  rw [List.length_map] at this
  exact this
theorem DPl.Sm (h : DPl B D) : D.Sm B := ⟨h.lim, fun x hx => (h.fit x hx).1⟩
theorem DPl.Kp (h : DPl B D) : D.Kp B := fun x hx => ⟨(h.fit x hx).1, (h.fit x hx).2.1, fun _ => (h.fit x hx).2.2⟩
theorem DPl.write (h : DPl B D) {p s : List UInt8} (hp : onlyP p) (hB : B ≤ B') (hs : s.length ≤ B') : DPl B' (D.write p s).2 := by
  have hat := h.at_ p
  unfold Dk.write
  repeat' split
  all_goals first
    | exact h.mono hB
    | exact h.step.mono hB
    | exact h.step.set hp hB ⟨hs, Nat.le_trans hat.2.1 hB, fun h2 => by cases h2⟩
theorem DPl.append (h : DPl B D) {p s : List UInt8} (hp : onlyP p) (hB : B + s.length ≤ B') : DPl B' (D.append p s).2 := by
  have hat := h.step.at_ p
  have hB2 : B ≤ B' := by omega
  unfold Dk.append
  repeat' split
  all_goals first
    | exact h.mono hB2
    | exact h.step.mono hB2
    | exact h.step.set hp hB2 ⟨by
        have := hat.1
        show ((D.step.at p).data ++ s).length ≤ B'
        rw [List.length_append]; omega, Nat.le_trans hat.2.1 hB2, fun h2 => by
        have := hat.2.2 h2
        show (D.step.at p).kept.length ≤ ((D.step.at p).data ++ s).length
        rw [List.length_append]; omega⟩
theorem DPl.sync (h : DPl B D) {p : List UInt8} (hp : onlyP p) : DPl B (D.sync p).2 := by
  have hat := h.step.at_ p
  unfold Dk.sync
  repeat' split
  all_goals first
    | exact h
    | exact h.step
    | exact h.step.put (x := { D.step.at p with kept := (D.step.at p).data, loose := false, anew := false }) hp (Nat.le_refl _) ⟨hat.1, hat.1, fun _ => Nat.le_refl _⟩ rfl rfl
theorem DPl.rename (h : DPl B D) {p r : List UInt8} (hr : onlyP r) : DPl B (D.rename p r).2 := by
  have hat := h.at_ p
  unfold Dk.rename
  repeat' split
  all_goals first
    | exact h
    | exact h.step
    | exact (h.step.del p).set hr (Nat.le_refl _) hat
theorem DPl.rot (h : DPl B D) {p : List UInt8} {bit : Int} (hp : onlyP p) : DPl B (D.rot p bit).2 := by
  have hat := h.at_ p
  unfold Dk.rot
  split
  · exact h
  · exact h.set hp (Nat.le_refl _) ⟨by rw [turnE_len]; exact hat.1, by rw [turnE_len]; exact hat.2.1, fun h2 => by rw [turnE_len, turnE_len]; exact hat.2.2 h2⟩
theorem lose1_DPl {loss : Int} {s : Int × Dk} {p : List UInt8} (h : DPl B s.2) (hp : onlyP p) : DPl B (lose1 loss s p).2 := by
  unfold lose1
  split
  · have hat := h.at_ p
    have := loseK_len loss (s.1 + 1) (s.2.at p) hat.1 hat.2.1
    exact h.set hp (Nat.le_refl _) ⟨this, this, fun _ => Nat.le_refl _⟩
  · exact h
theorem fold_DPl {loss : Int} : ∀ (ks : List (List UInt8)) (s : Int × Dk), DPl B s.2 → (∀ k ∈ ks, onlyP k) → DPl B (ks.foldl (lose1 loss) s).2
  | [], s, h, _ => h
  | k :: ks, s, h, hk => fold_DPl ks _ (lose1_DPl h (hk k (List.mem_cons_self ..))) fun q hq => hk q (List.mem_cons_of_mem _ hq)
theorem DPl.restart (h : DPl B D) (loss : Int) : DPl B (D.restart loss) := by
  have h2 : DPl B (D.lose loss).2 := fold_DPl D.keys (0, D) h fun k hk => by
    have := (List.mergeSort_perm (D.items.map Prod.fst) (fun x y => decide (x ≤ y))).mem_iff.1 hk
    obtain ⟨x, hx, rfl⟩ := List.mem_map.1 this
    exact h.only x hx
  exact h2.like rfl rfl
theorem DPl.arm (h : DPl B D) (n : Int) : DPl B (D.arm n) := h.like rfl rfl
theorem tP_eq : lP ++ [95, 116] = tP := rfl
theorem DPl.fill (h : DPl B D) {s : List UInt8} (hB : B ≤ B') (hs : s.length ≤ B') : DPl B' (D.fill lP s).2 := by
  unfold Dk.fill
  rw [tP_eq]
  have hw := h.write (p := tP) (.inr (.inr rfl)) hB hs
  repeat' split
  all_goals first
    | exact hw
    | exact hw.sync (.inr (.inr rfl))
    | exact (hw.sync (.inr (.inr rfl))).rename (.inr (.inl rfl))
theorem DPl.add (h : DPl B D) {G : Lg} {r : List UInt8} (hp : G.p = lP) (hB : B + (packE r).length ≤ B') : DPl B' (walAdd G D r).2.2 := by
  unfold walAdd
  rw [hp]
  have ha := h.append (p := lP) (s := packE r) (.inr (.inl rfl)) hB
  repeat' split
  all_goals first
    | exact ha
    | exact ha.sync (.inr (.inl rfl))
theorem DPl.read (h : DPl B D) (p : List UInt8) : (D.read p).1.length ≤ B := by
  have hat := h.at_ p
  unfold Dk.read
  repeat' split
  all_goals first | exact Nat.zero_le _ | exact hat.1
theorem DPl.open_ (h : DPl B D) : DPl B (walOpen D lP).2.2 := by
  have hr := h.read lP
  unfold walOpen
  repeat' split
  all_goals first
    | exact h
    | exact h.fill (Nat.le_refl _) (Nat.zero_le _)
    | exact h.fill (Nat.le_refl _) (by rw [List.length_take]; omega)
end
end Go.Proofs.YtccfiohagbneaaaGreatDoor

/- What is proved: what the law WalPlays asks of the program's disk besides; how many records a journal may have. Conditions: none. -/
set_option linter.unusedSimpArgs false
set_option linter.unusedVariables false
namespace Go.Proofs.YtccfiohagbneaaaGreatDoor
open Go Go.J Go.RowKit
set_option maxHeartbeats 4000000 in
set_option maxRecDepth 100000 in
theorem ddown_c {b mb lb : Nat} {D : Dk} {w0 : World} (h : DkIs b mb lb D w0) : Cal Tryz.prog 26 [.pointer (some ⟨b, 0, none⟩)] w0 (fun v w' => Upd [] w0 w' ∧ v = .bool D.down) := by
  refine Cal.mk' (by kernel_rfl) Tryz.func26 rfl rfl fun hS => ?_
  obtain ⟨_, _, _, hb, hm, hlm⟩ := h
  have hb : w0.heap[b]? = some (.cells ⟨[.map (some mb), .map (some lb), .int .i64 D.steps, .int .i64 D.stamps, .int .i64 D.armed, .bool D.down]⟩ 122 (0, 0)) := hb
  repeat' (first
    | (show WL _ _ _ _ _ _ _; first
      | refine WL.pure rfl rfl rfl rfl ?_
      | refine WL.nil ?_
      | (refine WL.load hS rfl rfl (LdOk.old hb (by repeat (first | exact List.Mem.head _ | apply List.Mem.tail)) rfl) rfl rfl rfl ?_))
    | (show WC _ _ _ _ _ _; first
      | refine WC.seq ?_
      | refine WC.region ?_
      | refine WC.ret ?_)
    | refine seqQ_n ?_)
  exact fin1r rfl rfl ⟨hS.upd, rfl⟩
set_option maxHeartbeats 4000000 in
set_option maxRecDepth 100000 in
theorem dstp_c {b mb lb : Nat} {D : Dk} {w0 : World} (h : DkIs b mb lb D w0) : Cal Tryz.prog 32 [.pointer (some ⟨b, 0, none⟩)] w0 (fun v w' => Upd [] w0 w' ∧ v = .int .i64 D.steps) := by
  refine Cal.mk' (by kernel_rfl) Tryz.func32 rfl rfl fun hS => ?_
  obtain ⟨_, _, _, hb, hm, hlm⟩ := h
  have hb : w0.heap[b]? = some (.cells ⟨[.map (some mb), .map (some lb), .int .i64 D.steps, .int .i64 D.stamps, .int .i64 D.armed, .bool D.down]⟩ 122 (0, 0)) := hb
  repeat' (first
    | (show WL _ _ _ _ _ _ _; first
      | refine WL.pure rfl rfl rfl rfl ?_
      | refine WL.nil ?_
      | (refine WL.load hS rfl rfl (LdOk.old hb (by repeat (first | exact List.Mem.head _ | apply List.Mem.tail)) rfl) rfl rfl rfl ?_))
    | (show WC _ _ _ _ _ _; first
      | refine WC.seq ?_
      | refine WC.region ?_
      | refine WC.skip ?_
      | refine WC.ret ?_
      | refine WC.condF rfl (by with_reducible rfl) ?_)
    | refine seqQ_n ?_)
  exact fin1r rfl rfl ⟨hS.upd, rfl⟩
theorem scanF_count : ∀ (k : Nat) (t : List UInt8), 4 * (scanF k t).1.length ≤ t.length
  | 0, t => by simp [scanF]
  | k + 1, t => by
    unfold scanF
    by_cases h0 : t = []
    · rw [if_pos h0]; exact Nat.zero_le _
    · rw [if_neg h0]
      by_cases he : (readE t).2.2 = 0
      · rw [if_pos he]
        have h1 := scanF_count k (t.drop (readE t).2.1)
        have h2 := readE_le t he
        rw [List.length_drop] at h1
        show 4 * ((scanF k (t.drop (readE t).2.1)).1.length + 1) ≤ _
        omega
      · rw [if_neg he]; exact Nat.zero_le _
/-- what is known of a journal's variable in the law -/
structure GPl (B : Nat) (G : Lg) : Prop where
  p : G.p = lP
  n : 4 * G.recs.length ≤ B
theorem GPl.mono {B B' : Nat} {G : Lg} (h : GPl B G) (hB : B ≤ B') : GPl B' G := ⟨h.p, Nat.le_trans h.n hB⟩
theorem GPl.reset {B : Nat} {G : Lg} (h : GPl B G) (e : Int) : GPl B (G.reset e) := by
  unfold Lg.reset
  split
  · exact ⟨h.p, Nat.zero_le _⟩
  · exact h
theorem GPl.add {B B' : Nat} {G : Lg} {D : Dk} {r : List UInt8} (h : GPl B G) (hB : B + 4 ≤ B') : GPl B' (walAdd G D r).2.1 := by
  unfold walAdd
  repeat' split
  all_goals first
    | exact h.mono (by omega)
    | exact ⟨h.p, by have := h.n; show 4 * (G.recs ++ [r]).length ≤ B'; rw [List.length_append]; show 4 * (_ + 1) ≤ _; omega⟩
theorem DPl.opened {B : Nat} {D : Dk} (h : DPl B D) : ∀ G, (walOpen D lP).2.1 = some G → GPl B G := by
  have hr := h.read lP
  have hc := scanF_count (D.read lP).1.length (D.read lP).1
  have hc : 4 * (scanE (D.read lP).1).1.length ≤ (D.read lP).1.length := hc
  unfold walOpen
  repeat' split
  all_goals
    intro G hG
    first
      | (cases hG; done)
      | (obtain rfl := Option.some.inj hG; exact ⟨rfl, Nat.zero_le _⟩)
      | (obtain rfl := Option.some.inj hG; exact ⟨rfl, Nat.le_trans hc hr⟩)
theorem walOpen_eW (D : Dk) (p : List UInt8) : ((walOpen D p).2.1 = none → (walOpen D p).1 ≠ 0) ∧ ∀ G, (walOpen D p).2.1 = some G → (walOpen D p).1 = 0 := by
  unfold walOpen
  repeat' split
  all_goals
    constructor
    · intro h
      first
        | assumption
        | cases h
    · intro G h
      first
        | rfl
        | cases h
structure Stp06 where
  kind : Int
  text : List UInt8
  n : Int
def encStp06 (s : Stp06) : List Value := [.int .i64 s.kind, str s.text, .int .i64 s.n]
def cStp06 : Cod Stp06 := .flat encStp06 3 fun _ => rfl
/-- how great what the journal holds may be behind so many steps -/
def szP (l : List Stp06) (i : Nat) : Nat := ((l.take i).map fun s => s.text.length + 14).sum
theorem szP_succ {l : List Stp06} {i : Nat} (h : i < l.length) : szP l (i + 1) = szP l i + (l[i].text.length + 14) := by
  unfold szP
  rw [List.take_succ_eq_append_getElem h, List.map_append, List.sum_append]
  simp
theorem szP_le (l : List Stp06) (i : Nat) : szP l i ≤ (l.map fun s => s.text.length).sum + 14 * i := by
  induction i generalizing l with
  | zero => simp [szP]
  | succ i ih =>
    cases l with
    | nil => simp [szP]
    | cons x l =>
      have := ih l
      unfold szP at this ⊢
      simp only [List.take_succ_cons, List.map_cons, List.sum_cons]
      omega
end Go.Proofs.YtccfiohagbneaaaGreatDoor

/- What is proved: the law WalPlays: a journal over any script is the document's. Conditions: a script of bounded bulk. -/
set_option linter.unusedSimpArgs false
set_option linter.unusedVariables false
namespace Go.Proofs.YtccfiohagbneaaaGreatDoor
open Go Go.J Go.RowKit
theorem markS2 {e : TypeId} (r1 r2 : Rw) (l1 l2 : List (List UInt8)) (h1 : l1.length = r1.n) (h2 : l2.length = r2.n) : MarkIs encT e 1 mT [r1, r2] [ownRw encT e 1 r1 l1, ownRw encT e 1 r2 l2] 0 := by
  refine ⟨rfl, fun j hj => ?_⟩
  match j, hj with
  | 0, _ => exact ⟨l1, h1, rfl, fun h => absurd h (Nat.not_lt_zero _)⟩
  | 1, _ => exact ⟨l2, h2, rfl, fun h => absurd h (Nat.not_lt_zero _)⟩
set_option maxHeartbeats 64000000 in
set_option maxRecDepth 100000 in
theorem walPlays_c (l : List Stp06) {A : Option Addr} {cap : Nat} {w0 : World} (hA : SlAt cStp06 (Old w0) w0 A l) (hl : (l.map fun s => s.text.length).sum + l.length ≤ 1048576) (hn : ∀ s ∈ l, -9223372036854775808 ≤ s.n ∧ s.n ≤ 9223372036854775807) :
    Cal Tryz.prog 3 [.slice A l.length cap] w0 (fun v w' => Upd [] w0 w' ∧ v = .bool true) := by
  refine Cal.mk' (by kernel_rfl) Tryz.func3 rfl rfl fun hS => ?_
  have hm0 : DPl 0 Dv0 := by
    refine ⟨rfl, by decide, fun x hx => ?_, fun x hx => ?_⟩
    · rw [List.mem_singleton.1 hx]; exact .inl rfl
    · rw [List.mem_singleton.1 hx]; exact FitI.zero 0
  repeat' (first
    | (show WL _ _ _ _ _ _ _; first
      | refine WL.pure rfl rfl rfl rfl ?_
      | refine WL.nil ?_
      | (refine WL.callL (D := []) hS (by repeat (first | exact Pulls.nil | (apply Pulls.cons; focus (repeat (first | exact Pull.here | apply Pull.there))))) rfl rfl (fun hI => made_c _) rfl rfl rfl ?_; rintro v w ⟨q, mb, lb, rfl, hm⟩ hS; replace hS := hS _ hm; clear hm)
      | (refine WL.callG rfl rfl (rfnew_c _) rfl rfl rfl ?_; rintro v w ⟨hu, dk, f0, rfl, hn⟩; replace hS := hS.new hu hn; clear hu hn)
      | (refine WL.calls hS rfl rfl (wawake_c _) rfl rfl rfl ?_; rintro v w rfl hS)
      | (refine WL.callL (D := [rfC dk Dk0 f0]) hS (by repeat (first | exact Pulls.nil | (apply Pulls.cons; focus (repeat (first | exact Pull.here | apply Pull.there))))) rfl rfl (fun hI => rfmkdir_c [118] hI (by decide) (by decide)) rfl rfl rfl ?_; rintro v w ⟨rfl, f1, hm⟩ hS; replace hS := hS _ hm; clear hm; rw [mkdir_v] at hS ⊢; dsimp only at hS ⊢)
      | (refine WL.callL (D := [dkC q mb lb Dv0]) hS (by repeat (first | exact Pulls.nil | (apply Pulls.cons; focus (repeat (first | exact Pull.here | apply Pull.there))))) rfl rfl (fun hI => open_c lP hI (by decide) Sm_v) rfl rfl rfl ?_; rintro v w hR hS; rw [open_new] at hR; obtain ⟨L, fp, rfl, hm⟩ := hR; replace hS := hS _ hm; clear hm)
      | (refine WL.callL (D := [rfC dk Dv0 f1]) hS (by repeat (first | exact Pulls.nil | (apply Pulls.cons; focus (repeat (first | exact Pull.here | apply Pull.there))))) rfl rfl (fun hI => rlopen_c lP hI (by decide) Sm_v (by decide)) rfl rfl rfl ?_; rintro v w hR hS; rw [open_new] at hR; obtain ⟨Lm, fm, fq, rfl, hm⟩ := hR; replace hS := hS _ hm; clear hm))
    | (show WC _ _ _ _ _ _; first
      | refine WC.seq ?_
      | refine WC.region ?_
      | refine WC.block ?_
      | refine WC.skip ?_
      | refine WC.condF rfl (by with_reducible rfl) ?_
      | refine WC.condF rfl (by decide) ?_)
    | refine seqQ_n ?_)
  have hd0 : DPl (szP l 0) (Dl ⟨false, [], [], false, false, 2⟩ 4 2 (-1) false) := by
    have := hm0.open_
    rw [open_new] at this
    exact this
  have hg0 : GPl (szP l 0) ⟨lP, [], false⟩ := hm0.opened _ (by rw [open_new])
  have hsz : ∀ i, i ≤ 120 → szP l i ≤ 1060000 := fun i hi => by have := szP_le l i; omega
  refine WC.loop (σ := Nat × Dk × Lg × Nat × Nat × List Nat × List Nat × List Nat) [0, 3, 4] (fun (i, D, G, L, Lm, _) => [(5, .pointer (some ⟨L, 0, none⟩)), (7, .pointer (some ⟨Lm, 0, none⟩)), (9, .int .i64 (i : Int))])
    (fun (i, D, G, L, Lm, fp, fm, fq) w => (i ≤ l.length ∧ i ≤ 120 ∧ DPl (szP l i) D ∧ GPl (szP l i) G) ∧ St w0 [] w [lgC L q G fp, dkC q mb lb D, rlC Lm dk G fm, rfC dk D fq] [⟨w0, Old w0⟩]) (fun (i, _) => l.length - i)
    (0, _, _, L, Lm, fp, fm, fq) ⟨⟨Nat.zero_le _, Nat.zero_le _, hd0, hg0⟩, hS.droplast2 (by repeat (first | exact Pulls.nil | (apply Pulls.cons; focus (repeat (first | exact Pull.here | apply Pull.there)))))⟩ ⟨rfl, rfl, rfl, trivial⟩ ?_
  clear hS hd0 hg0 hm0
  rintro ⟨i, D, G, L, Lm, fp, fm, fq⟩ g w ⟨⟨hi, hi2, hD, hG⟩, hS⟩
  show WC _ _ _ (lf _ [(5, .pointer (some ⟨L, 0, none⟩)), (7, .pointer (some ⟨Lm, 0, none⟩)), (9, .int .i64 (i : Int))] _ _) _ _
  by_cases hlt : i < l.length
  rotate_left
  · have hie : i = l.length := by omega
    subst hie
    repeat' (first
      | (show WL _ _ _ _ _ _ _; first
        | refine WL.pure rfl rfl rfl rfl ?_
        | refine WL.nil ?_
        | refine WL.skip rfl rfl rfl ?_
        | ((fail_if_success (refine WL.wanted rfl ?_)); refine WL.guard rfl rfl rfl (fun h => ?_) (fun h => ?_) <;> (try simp only [Classical.not_not, Bool.not_eq_true', Bool.not_eq_false', Bool.not_eq_eq_eq_not, Bool.not_true, Bool.not_false, beq_iff_eq, beq_eq_false_iff_ne, ne_eq, decide_eq_decide, decide_eq_true_eq, decide_eq_false_iff_not, Bool.and_eq_true, Bool.or_eq_true, Bool.and_eq_false_iff, Bool.or_eq_false_iff] at h) <;> (try (exfalso; first | omega | contradiction))))
      | (show WC _ _ _ _ _ _; first
        | refine WC.seq ?_
        | refine WC.region ?_
        | refine WC.exit ?_
        | refine WC.ret ?_
        | refine WC.condF rfl (by with_reducible rfl) ?_)
      | refine seqQ_n ?_
      | refine seqQ_x ?_
      | refine blkQ_hit rfl ?_
      | refine rndQ_x ?_)
    exact fin1r rfl rfl ⟨hS.upd, rfl⟩
  by_cases hlt2 : i < 120
  rotate_left
  · have hie : i = 120 := by omega
    subst hie
    repeat' (first
      | (show WL _ _ _ _ _ _ _; first
        | refine WL.pure rfl rfl rfl rfl ?_
        | refine WL.nil ?_
        | ((fail_if_success (refine WL.wanted rfl ?_)); refine WL.guard rfl rfl rfl (fun h => ?_) (fun h => ?_) <;> (try simp only [Classical.not_not, Bool.not_eq_true', Bool.not_eq_false', Bool.not_eq_eq_eq_not, Bool.not_true, Bool.not_false, beq_iff_eq, beq_eq_false_iff_ne, ne_eq, decide_eq_decide, decide_eq_true_eq, decide_eq_false_iff_not, Bool.and_eq_true, Bool.or_eq_true, Bool.and_eq_false_iff, Bool.or_eq_false_iff] at h) <;> (try (exfalso; first | omega | contradiction))))
      | (show WC _ _ _ _ _ _; first
        | refine WC.seq ?_
        | refine WC.region ?_
        | refine WC.exit ?_
        | refine WC.ret ?_
        | refine WC.condF rfl (by decide) ?_)
      | refine seqQ_n ?_
      | refine seqQ_x ?_
      | refine blkQ_hit rfl ?_
      | refine rndQ_x ?_)
    exact fin1r rfl rfl ⟨hS.upd, rfl⟩
  obtain ⟨rb, ro, es, rfl, hF, hr, hes⟩ := hA.at_ hlt
  have hes : es = encStp06 l[i] := hes
  subst hes
  have hr : w0.rangeAt rb (ro + i * 3) (encStp06 l[i]) := hr
  have hB := szP_succ hlt
  have hB1 := hsz (i + 1) (by omega)
  have hN := hn _ (List.getElem_mem hlt)
  generalize l[i] = s at *
  obtain ⟨kind, text, n⟩ := s
  unfold encStp06 at hr
  dsimp only at hr hB hN
  generalize hB1e : szP l (i + 1) = B1 at *
  generalize szP l i = B0 at *
  repeat' (first
    | (show WL _ _ _ _ _ _ _; first
      | refine WL.pure rfl rfl rfl rfl ?_
      | refine WL.nil ?_
      | refine WL.load hS rfl rfl (LdOk.box (by repeat (first | exact List.Mem.head _ | apply List.Mem.tail)) rfl) rfl rfl rfl ?_
      | (refine WL.load hS rfl rfl (LdOk.snap0 hF hr (by repeat (first | exact List.Mem.head _ | apply List.Mem.tail)) rfl) rfl rfl rfl ?_)
      | (refine WL.store hS rfl rfl rfl (by repeat (first | exact StB.here rfl | apply StB.there)) rfl rfl rfl ?_; intro w hS)
      | (refine WL.alloc hS rfl rfl rfl rfl rfl rfl ?_; intro w b hS)
      | refine WL.index rfl rfl rfl rfl (by first | with_reducible assumption | omega) rfl rfl rfl rfl ?_
      | refine WL.skip rfl rfl rfl ?_
      | ((fail_if_success (refine WL.wanted rfl ?_)); refine WL.guard rfl rfl rfl (fun h => ?_) (fun h => ?_) <;> (try simp only [Classical.not_not, Bool.not_eq_true', Bool.not_eq_false', Bool.not_eq_eq_eq_not, Bool.not_true, Bool.not_false, beq_iff_eq, beq_eq_false_iff_ne, ne_eq, decide_eq_decide, decide_eq_true_eq, decide_eq_false_iff_not, Bool.and_eq_true, Bool.or_eq_true, Bool.and_eq_false_iff, Bool.or_eq_false_iff] at h) <;> (try (exfalso; first | omega | contradiction))))
    | (show WC _ _ _ _ _ _; first
      | (show WC _ _ (Code.seq (Code.region 12 _ _) _) _ _ _; refine WC.cutS (σ := Bool) [0, 3, 4, 5, 7, 9, 10] (fun a => [(11, .bool a)]) (fun _ w => St w0 [] w [lgC L q G fp, dkC q mb lb D, rlC Lm dk G fm, rfC dk D fq, .box b 37 [.int .i64 kind, str text, .int .i64 n]] [⟨w0, Old w0⟩]) ?_ ?_)
      | refine WC.seq ?_
      | refine WC.region ?_
      | refine WC.block ?_
      | refine WC.skip ?_
      | refine WC.condT rfl (decide_eq_true (by first | with_reducible assumption | omega)) ?_)
    | refine seqQ_n ?_)
  all_goals first
    | exact endQ_n true (hS.droplast2 (by repeat (first | exact Pulls.nil | (apply Pulls.cons; focus (repeat (first | exact Pull.here | apply Pull.there)))))) ⟨rfl, trivial⟩ ⟨rfl, rfl, rfl, rfl, rfl, rfl, rfl, trivial⟩
    | exact endQ_n false (hS.droplast2 (by repeat (first | exact Pulls.nil | (apply Pulls.cons; focus (repeat (first | exact Pull.here | apply Pull.there)))))) ⟨rfl, trivial⟩ ⟨rfl, rfl, rfl, rfl, rfl, rfl, rfl, trivial⟩
    | exact endQ_n (decide (kind = 5)) (hS.droplast2 (by repeat (first | exact Pulls.nil | (apply Pulls.cons; focus (repeat (first | exact Pull.here | apply Pull.there)))))) ⟨rfl, trivial⟩ ⟨rfl, rfl, rfl, rfl, rfl, rfl, rfl, trivial⟩
    | skip
  repeat (clear hS)
  clear hr hes hF
  rintro again g2 w hS
  obtain ⟨sb, hsb⟩ : ∃ sb, sb = b := ⟨_, rfl⟩
  subst hsb
  show WC _ _ _ (lf _ [(11, .bool again)] _ _) _ _
  have hpl : G.p.length ≤ 1099511620 := by rw [hG.p]; decide
  have hit := hD.len
  have hkp : D.Kp 1099511627776 := (hD.mono (show B0 ≤ 1099511627776 by omega)).Kp
  have hsm : D.Sm 1099511627776 := (hD.mono (show B0 ≤ 1099511627776 by omega)).Sm
  have hkk : ∀ x ∈ D.items, x.1.length ≤ 1099511627 := fun x hx => by rcases hD.only x hx with e | e | e <;> rw [e] <;> decide
  have hat := hD.at_ lP
  have hat2 := hD.step.at_ lP
  have hatp := hD.at_ G.p
  have hatp2 := hD.step.at_ G.p
  have hgn := hG.n
  have hDm := hD.mono (show B0 ≤ B1 by omega)
  have hGm := hG.mono (show B0 ≤ B1 by omega)
  rcases hua : walAdd G D text with ⟨e1, G1, D1⟩
  rcases huf : D.fill G.p [] with ⟨e2, D2⟩
  have hadd := DPl.add (G := G) (r := text) (B' := B1) hD hG.p (by have := packE_len text; have := putN_len10 (n := text.length) (by omega); omega)
  have haddG := GPl.add (D := D) (r := text) (B' := B1) hG (by omega)
  rw [hua] at hadd haddG
  have hfill : DPl B1 D2 := by
    have := hDm.fill (s := []) (Nat.le_refl _) (Nat.zero_le _)
    rw [← hG.p, huf] at this
    exact this
  have hrs := hDm.restart n
  have hrt := hDm.rot (bit := n) (p := lP) (.inr (.inl rfl))
  have hap := hD.append (s := text) (B' := B1) (p := lP) (.inr (.inl rfl)) (by omega)
  repeat' (first
    | (show WL _ _ _ _ _ _ _; first
      | refine WL.pure rfl rfl rfl rfl ?_
      | refine WL.nil ?_
      | refine WL.load hS rfl rfl (LdOk.box (by repeat (first | exact List.Mem.head _ | apply List.Mem.tail)) rfl) rfl rfl rfl ?_
      | (refine WL.callL (D := [lgC L q G fp, dkC q mb lb D]) hS (by repeat (first | exact Pulls.nil | (apply Pulls.cons; focus (repeat (first | exact Pull.here | apply Pull.there))))) rfl rfl (fun hI => reset_c hI huf hpl hsm) rfl rfl rfl ?_; rintro v w ⟨rfl, f1, hm⟩ hS; replace hS := hS _ hm; clear hm)
      | (refine WL.callL (D := [rlC Lm dk G fm, rfC dk D fq]) hS (by repeat (first | exact Pulls.nil | (apply Pulls.cons; focus (repeat (first | exact Pull.here | apply Pull.there))))) rfl rfl (fun hI => rlreset_c hI hpl (by omega) hsm) rfl rfl rfl ?_; rintro v w ⟨rfl, f2, f3, hm⟩ hS; replace hS := hS _ hm; clear hm; rw [huf] at hS ⊢; dsimp only at hS ⊢)
      | (refine WL.callL (D := [dkC q mb lb D]) hS (by repeat (first | exact Pulls.nil | (apply Pulls.cons; focus (repeat (first | exact Pull.here | apply Pull.there))))) rfl rfl (fun hI => arm_c n hI.head hI.headB) rfl rfl rfl ?_; rintro v w ⟨rfl, hm⟩ hS; replace hS := hS _ (.of1 hm); clear hm; obtain ⟨_, ⟨A5, c5, l5, hR5, rfl⟩, hfp5, hS⟩ := St.objOpen (φ := rfφ dk D) (fp := fq) (hS.pull (by repeat (first | exact Pull.here | apply Pull.there))); dsimp only [List.cons_append, List.nil_append] at hS)
      | (refine WL.callL (D := [dkC q mb lb D]) hS (by repeat (first | exact Pulls.nil | (apply Pulls.cons; focus (repeat (first | exact Pull.here | apply Pull.there))))) rfl rfl (fun hI => restart_c n hI.head hI.headB hkp (by omega) hkk) rfl rfl rfl ?_; rintro v w ⟨rfl, hm⟩ hS; replace hS := hS _ (.of1 hm); clear hm)
      | (refine WL.callL (D := [rfC dk D fq]) hS (by repeat (first | exact Pulls.nil | (apply Pulls.cons; focus (repeat (first | exact Pull.here | apply Pull.there))))) rfl rfl (fun hI => rfrestart_c n hI hkp (by omega)) rfl rfl rfl ?_; rintro v w ⟨rfl, f2, hm⟩ hS; replace hS := hS _ hm; clear hm)
      | (refine WL.callL (D := [dkC q mb lb D]) hS (by repeat (first | exact Pulls.nil | (apply Pulls.cons; focus (repeat (first | exact Pull.here | apply Pull.there))))) rfl rfl (fun hI => rot_c lP n hI.head hI.headB (by decide) (by have := hat.1; omega) (by have := hat.2.1; omega)) rfl rfl rfl ?_; rintro v w ⟨rfl, hm⟩ hS; replace hS := hS _ (.of1 hm); clear hm)
      | (refine WL.callL (D := [rfC dk D fq]) hS (by repeat (first | exact Pulls.nil | (apply Pulls.cons; focus (repeat (first | exact Pull.here | apply Pull.there))))) rfl rfl (fun hI => rfrot_c lP n hI (by decide) (by omega) (by have := hat.1; omega) (by have := hat.2.1; omega)) rfl rfl rfl ?_; rintro v w ⟨rfl, f2, hm⟩ hS; replace hS := hS _ hm; clear hm)
      | (refine WL.callL (D := [dkC q mb lb D]) hS (by repeat (first | exact Pulls.nil | (apply Pulls.cons; focus (repeat (first | exact Pull.here | apply Pull.there))))) rfl rfl (fun hI => append_c lP text hI.head hI.headB (by decide) (by rw [hD.lim]; rfl) (by have := hat2.1; omega)) rfl rfl rfl ?_; rintro v w ⟨rfl, hm⟩ hS; replace hS := hS _ (.of1 hm); clear hm)
      | (refine WL.callL (D := [rfC dk D fq]) hS (by repeat (first | exact Pulls.nil | (apply Pulls.cons; focus (repeat (first | exact Pull.here | apply Pull.there))))) rfl rfl (fun hI => rfappend_c lP text hI (by decide) (by omega) (by have := hat.1; omega)) rfl rfl rfl ?_; rintro v w ⟨rfl, f2, hm⟩ hS; replace hS := hS _ hm; clear hm)
      | (refine WL.store hS rfl rfl rfl (by repeat (first | exact StB.here rfl | apply StB.there)) rfl rfl rfl ?_; intro w hS))
    | (show WC _ _ _ _ _ _; first
      | (show WC _ _ (Code.seq (Code.seq (Code.region 13 _ _) (Code.block 2 _)) _) _ _ _; refine WC.cutS (σ := Dk × Lg × List Nat × List Nat × List Nat) [0, 3, 4, 5, 7, 9, 10, 11] (fun _ => []) (fun (D, G, fp, fm, fq) w => (DPl B1 D ∧ GPl B1 G) ∧ St w0 [] w [lgC L q G fp, dkC q mb lb D, rlC Lm dk G fm, rfC dk D fq, .box sb 37 [.int .i64 kind, str text, .int .i64 n]] [⟨w0, Old w0⟩]) ?_ ?_)
      | refine WC.seq ?_
      | refine WC.region ?_
      | refine WC.block ?_
      | refine WC.skip ?_
      | (show WC _ _ (Code.region _ (List.toArray [_, _, _, _, _, _, _, _, _]) true) _ _ _; refine WC.drawL [lgC L q G fp, dkC q mb lb D, rlC Lm dk G fm, rfC dk D fq] hS (by repeat (first | exact Pulls.nil | (apply Pulls.cons; focus (repeat (first | exact Pull.here | apply Pull.there))))) [0,1,2,4,5,6,8] [0,1,2,4,5,6,3,7,8] (by kernel_rfl) (by kernel_rfl) ?_; clear hS; intro w hS hM)
      | refine WC.condF rfl (decide_eq_false (by first | with_reducible assumption | omega)) ?_
      | (refine WC.cond rfl (fun h => ?_) (fun h => ?_) <;> (try simp only [Classical.not_not, Bool.not_eq_true', Bool.not_eq_false', Bool.not_eq_eq_eq_not, Bool.not_true, Bool.not_false, beq_iff_eq, beq_eq_false_iff_ne, ne_eq, decide_eq_decide, decide_eq_true_eq, decide_eq_false_iff_not, Bool.and_eq_true, Bool.or_eq_true, Bool.and_eq_false_iff, Bool.or_eq_false_iff] at h) <;> (try (exfalso; first | omega | contradiction))))
    | (show WD _ _ _ _ _ _ _ _ _; first
      | refine WD.pure rfl rfl rfl rfl rfl ?_
      | refine WD.nil ?_
      | refine WD.load rfl rfl (LdOk.box (by repeat (first | exact List.Mem.head _ | apply List.Mem.tail)) rfl) rfl rfl rfl rfl ?_
      | (refine WD.callL (D := [lgC L q G fp, dkC q mb lb D]) hS (by repeat (first | exact Pulls.nil | (apply Pulls.cons; focus (repeat (first | exact Pull.here | apply Pull.there))))) (by first | exact .refl _ _ | exact .chunk (.refl _ _) _ | exact .chunk (.chunk (.refl _ _) _) _) rfl rfl (fun hI => add_c text hI hua hpl hD.lim (by omega) (by have := hatp2.1; omega) (by omega)) rfl rfl rfl rfl rfl ?_; rintro v w ⟨rfl, f1, hm⟩; refine ⟨_, hm, fun hS hM => ?_⟩; clear hm)
      | (refine WD.callL (D := [rlC Lm dk G fm, rfC dk D fq]) hS (by repeat (first | exact Pulls.nil | (apply Pulls.cons; focus (repeat (first | exact Pull.here | apply Pull.there))))) (by first | exact .refl _ _ | exact .chunk (.refl _ _) _ | exact .chunk (.chunk (.refl _ _) _) _) rfl rfl (fun hI => rladd_c text hI hua hpl (by omega) (by omega) (by have := hatp.1; omega) (by omega)) rfl rfl rfl rfl rfl ?_; rintro v w ⟨rfl, f2, f3, hm⟩; refine ⟨_, hm, fun hS hM => ?_⟩; clear hm))
    | refine seqQ_n ?_
    | refine blkQ_n ?_)
  all_goals first
    | exact endQ_n (D1, G1, _, _, _) ⟨⟨hadd, haddG⟩, hS.droplast2 (by repeat (first | exact Pulls.nil | (apply Pulls.cons; focus (repeat (first | exact Pull.here | apply Pull.there)))))⟩ trivial ⟨rfl, rfl, rfl, rfl, rfl, rfl, rfl, rfl, trivial⟩
    | exact endQ_n (D2, G.reset e2, _, _, _) ⟨⟨hfill, hGm.reset _⟩, hS.droplast2 (by repeat (first | exact Pulls.nil | (apply Pulls.cons; focus (repeat (first | exact Pull.here | apply Pull.there)))))⟩ trivial ⟨rfl, rfl, rfl, rfl, rfl, rfl, rfl, rfl, trivial⟩
    | exact endQ_n (D.restart n, G, fp, fm, _) ⟨⟨hrs, hGm⟩, hS.droplast2 (by repeat (first | exact Pulls.nil | (apply Pulls.cons; focus (repeat (first | exact Pull.here | apply Pull.there)))))⟩ trivial ⟨rfl, rfl, rfl, rfl, rfl, rfl, rfl, rfl, trivial⟩
    | exact endQ_n ((D.rot lP n).2, G, fp, fm, _) ⟨⟨hrt, hGm⟩, hS.droplast2 (by repeat (first | exact Pulls.nil | (apply Pulls.cons; focus (repeat (first | exact Pull.here | apply Pull.there)))))⟩ trivial ⟨rfl, rfl, rfl, rfl, rfl, rfl, rfl, rfl, trivial⟩
    | exact endQ_n ((D.append lP text).2, G, fp, fm, _) ⟨⟨hap, hGm⟩, hS.droplast2 (by repeat (first | exact Pulls.nil | (apply Pulls.cons; focus (repeat (first | exact Pull.here | apply Pull.there)))))⟩ trivial ⟨rfl, rfl, rfl, rfl, rfl, rfl, rfl, rfl, trivial⟩
    | exact endQ_n (D, G, fp, fm, fq) ⟨⟨hDm, hGm⟩, hS.droplast2 (by repeat (first | exact Pulls.nil | (apply Pulls.cons; focus (repeat (first | exact Pull.here | apply Pull.there)))))⟩ trivial ⟨rfl, rfl, rfl, rfl, rfl, rfl, rfl, rfl, trivial⟩
    | (have e : D.arm n = { D with armed := -1 } := by
        unfold Dk.arm
        rw [show max (-1) n = -1 by omega]
       rw [e] at hS
       have hS := St.objClose (φ := rfφ dk { D with armed := -1 }) (hS.pulls (D := rfL dk A5 c5 l5 { D with armed := -1 }) (by repeat (first | exact Pulls.nil | (apply Pulls.cons; focus (repeat (first | exact Pull.here | apply Pull.there)))))) ⟨A5, c5, l5, hR5, rfl⟩
       exact endQ_n ({ D with armed := -1 }, G, fp, fm, _) ⟨⟨hDm.like rfl rfl, hGm⟩, hS.droplast2 (by repeat (first | exact Pulls.nil | (apply Pulls.cons; focus (repeat (first | exact Pull.here | apply Pull.there)))))⟩ trivial ⟨rfl, rfl, rfl, rfl, rfl, rfl, rfl, rfl, trivial⟩)
    | (have e : D.arm n = { D with armed := n } := by
        unfold Dk.arm
        rw [show max (-1) n = n by omega]
       rw [e] at hS
       have hS := St.objClose (φ := rfφ dk { D with armed := n }) (hS.pulls (D := rfL dk A5 c5 l5 { D with armed := n }) (by repeat (first | exact Pulls.nil | (apply Pulls.cons; focus (repeat (first | exact Pull.here | apply Pull.there)))))) ⟨A5, c5, l5, hR5, rfl⟩
       exact endQ_n ({ D with armed := n }, G, fp, fm, _) ⟨⟨hDm.like rfl rfl, hGm⟩, hS.droplast2 (by repeat (first | exact Pulls.nil | (apply Pulls.cons; focus (repeat (first | exact Pull.here | apply Pull.there)))))⟩ trivial ⟨rfl, rfl, rfl, rfl, rfl, rfl, rfl, rfl, trivial⟩)
    | skip
  repeat (clear hS)
  clear hadd haddG hfill hrs hrt hap hua huf hDm hGm hat hat2 hatp hatp2 hit hkp hsm hkk hgn hpl hD hG
  rintro ⟨D, G, fp, fm, fq⟩ g3 w ⟨⟨hD, hG⟩, hS⟩
  show WC _ _ _ (lf _ [] _ _) _ _
  have hit := hD.len
  have hkp : D.Kp 1099511627776 := (hD.mono (show B1 ≤ 1099511627776 by omega)).Kp
  have hkk : ∀ x ∈ D.items, x.1.length ≤ 1099511627 := fun x hx => by rcases hD.only x hx with e | e | e <;> rw [e] <;> decide
  obtain ⟨Dr, hDr⟩ : ∃ Dr, Dr = if again = true ∨ D.down = true then (if D.down = true then D.restart n else D) else D := ⟨_, rfl⟩
  have hDD : DPl B1 Dr := by
    rw [hDr]
    split
    · split
      · exact hD.restart n
      · exact hD
    · exact hD
  have hop := hDD.opened
  have hop2 := hDD.open_
  have hsm : Dr.Sm 1099511627776 := (hDD.mono (show B1 ≤ 1099511627776 by omega)).Sm
  have hitr := hDD.len
  have hoc := fun (w : World) (hi : InL w [dkC q mb lb Dr]) => open_c lP hi (by decide) hsm
  have hrc := fun (fq : List Nat) (w : World) (hi : InL w [rfC dk Dr fq]) => rlopen_c (fq := fq) lP hi (by decide) hsm (by omega)
  have hwe := walOpen_eW Dr lP
  rcases hwo : walOpen Dr lP with ⟨eo, Go, Do⟩
  rw [hwo] at hop hop2 hoc hrc hwe
  dsimp only at hop hop2 hwe
  have hcase : (again = false ∧ D.down = false ∧ Dr = D) ∨ (D.down = true ∧ Dr = D.restart n) ∨ (again = true ∧ D.down = false ∧ Dr = D) := by
    rw [hDr]
    cases again <;> cases D.down <;> simp
  clear hDr hwo
  refine WC.cutS (σ := Dk × Lg × Nat × Nat × List Nat × List Nat × List Nat) [0, 3, 4, 9] (fun (D, G, L, Lm, _) => [(5, .pointer (some ⟨L, 0, none⟩)), (7, .pointer (some ⟨Lm, 0, none⟩))]) (fun (D, G, L, Lm, fp, fm, fq) w => (DPl B1 D ∧ GPl B1 G) ∧ St w0 [] w [lgC L q G fp, dkC q mb lb D, rlC Lm dk G fm, rfC dk D fq] [⟨w0, Old w0⟩]) ?_ ?_
  · rcases hcase with ⟨rfl, hdn, rfl⟩ | hcase
    · repeat' (first
        | (show WL _ _ _ _ _ _ _; first
          | refine WL.pure rfl rfl rfl rfl ?_
          | refine WL.nil ?_
          | (refine WL.calls hS rfl rfl (ddown_c (hS.holds (dkC q mb lb Dr) (by repeat (first | exact List.Mem.head _ | apply List.Mem.tail))).1) rfl rfl rfl ?_; rintro v w rfl hS; rw [hdn]))
        | (show WC _ _ _ _ _ _; first
          | refine WC.seq ?_
          | refine WC.region ?_
          | refine WC.skip ?_
          | refine WC.condF rfl (by with_reducible rfl) ?_)
        | refine seqQ_n ?_)
      exact endQ_n (Dr, G, L, Lm, fp, fm, fq) ⟨⟨hDD, hG⟩, hS.droplast2 (by repeat (first | exact Pulls.nil | (apply Pulls.cons; focus (repeat (first | exact Pull.here | apply Pull.there)))))⟩ ⟨rfl, rfl, trivial⟩ ⟨rfl, rfl, rfl, rfl, trivial⟩
    rcases Go with _ | G2
    · have hoc : ∀ w, InL w [dkC q mb lb Dr] → Cal Tryz.prog 13 [.pointer (some ⟨q, 0, none⟩), str lP] w (fun v w' => v = .tuple #[.pointer none, .int .i64 eo] ∧ MutL w w' [dkC q mb lb Dr] [dkC q mb lb Do]) := hoc
      have hrc : ∀ fq w, InL w [rfC dk Dr fq] → Cal Tryz.prog 14 [.pointer (some ⟨dk, 0, none⟩), str lP] w (fun v w' => v = .tuple #[.pointer none, .int .i64 eo] ∧ ∃ fq', MutL w w' [rfC dk Dr fq] [rfC dk Do fq']) := hrc
      rcases hcase with ⟨hdn, rfl⟩ | ⟨rfl, hdn, rfl⟩
      all_goals
        repeat' (first
          | (show WL _ _ _ _ _ _ _; first
            | refine WL.pure rfl rfl rfl rfl ?_
            | refine WL.nil ?_
            | refine WL.load hS rfl rfl (LdOk.box (by repeat (first | exact List.Mem.head _ | apply List.Mem.tail)) rfl) rfl rfl rfl ?_
            | (refine WL.calls hS rfl rfl (ddown_c (hS.holds (dkC q mb lb _) (by repeat (first | exact List.Mem.head _ | apply List.Mem.tail))).1) rfl rfl rfl ?_; rintro v w rfl hS; rw [hdn])
            | (refine WL.callL (D := [dkC q mb lb D]) hS (by repeat (first | exact Pulls.nil | (apply Pulls.cons; focus (repeat (first | exact Pull.here | apply Pull.there))))) rfl rfl (fun hI => restart_c n hI.head hI.headB hkp (by omega) hkk) rfl rfl rfl ?_; rintro v w ⟨rfl, hm⟩ hS; replace hS := hS _ (.of1 hm); clear hm)
            | (refine WL.callL (D := [rfC dk D fq]) hS (by repeat (first | exact Pulls.nil | (apply Pulls.cons; focus (repeat (first | exact Pull.here | apply Pull.there))))) rfl rfl (fun hI => rfrestart_c n hI hkp (by omega)) rfl rfl rfl ?_; rintro v w ⟨rfl, f2, hm⟩ hS; replace hS := hS _ hm; clear hm)
            | (refine WL.callL (D := [dkC q mb lb _]) hS (by repeat (first | exact Pulls.nil | (apply Pulls.cons; focus (repeat (first | exact Pull.here | apply Pull.there))))) rfl rfl (fun hI => hoc _ hI) rfl rfl rfl ?_; rintro v w ⟨rfl, hm⟩ hS; replace hS := hS _ hm; clear hm)
            | (refine WL.callL (D := [rfC dk _ _]) hS (by repeat (first | exact Pulls.nil | (apply Pulls.cons; focus (repeat (first | exact Pull.here | apply Pull.there))))) rfl rfl (fun hI => hrc _ _ hI) rfl rfl rfl ?_; rintro v w ⟨rfl, f4, hm⟩ hS; replace hS := hS _ hm; clear hm)
            | refine WL.skip rfl rfl rfl ?_
            | ((fail_if_success (refine WL.wanted rfl ?_)); refine WL.guard rfl rfl rfl (fun h => ?_) (fun h => ?_) <;> (try simp only [Classical.not_not, Bool.not_eq_true', Bool.not_eq_false', Bool.not_eq_eq_eq_not, Bool.not_true, Bool.not_false, beq_iff_eq, beq_eq_false_iff_ne, ne_eq, decide_eq_decide, decide_eq_true_eq, decide_eq_false_iff_not, Bool.and_eq_true, Bool.or_eq_true, Bool.and_eq_false_iff, Bool.or_eq_false_iff] at h) <;> (try (exfalso; first | omega | contradiction))))
          | (show WC _ _ _ _ _ _; first
            | refine WC.seq ?_
            | refine WC.region ?_
            | refine WC.skip ?_
            | refine WC.ret ?_
            | refine WC.condT rfl (by with_reducible rfl) ?_
            | refine WC.condF rfl (by with_reducible rfl) ?_
            | refine WC.condF rfl (by decide) ?_)
          | refine seqQ_n ?_
          | refine seqQ_r ?_
          | refine blkQ_r ?_
          | refine rndQ_r ?_
          | refine endQ_r ?_)
        all_goals exact fin1r rfl rfl ⟨hS.upd, rfl⟩
    · have hoc : ∀ w, InL w [dkC q mb lb Dr] → Cal Tryz.prog 13 [.pointer (some ⟨q, 0, none⟩), str lP] w (fun v w' => ∃ L fp, v = .tuple #[.pointer (some ⟨L, 0, none⟩), .int .i64 eo] ∧ MutL w w' [dkC q mb lb Dr] [lgC L q G2 fp, dkC q mb lb Do]) := hoc
      have hrc : ∀ fq w, InL w [rfC dk Dr fq] → Cal Tryz.prog 14 [.pointer (some ⟨dk, 0, none⟩), str lP] w (fun v w' => ∃ L fp fq', v = .tuple #[.pointer (some ⟨L, 0, none⟩), .int .i64 eo] ∧ MutL w w' [rfC dk Dr fq] [rlC L dk G2 fp, rfC dk Do fq']) := hrc
      rcases hcase with ⟨hdn, rfl⟩ | ⟨rfl, hdn, rfl⟩
      all_goals
        repeat' (first
          | (show WL _ _ _ _ _ _ _; first
            | refine WL.pure rfl rfl rfl rfl ?_
            | refine WL.nil ?_
            | refine WL.load hS rfl rfl (LdOk.box (by repeat (first | exact List.Mem.head _ | apply List.Mem.tail)) rfl) rfl rfl rfl ?_
            | (refine WL.calls hS rfl rfl (ddown_c (hS.holds (dkC q mb lb _) (by repeat (first | exact List.Mem.head _ | apply List.Mem.tail))).1) rfl rfl rfl ?_; rintro v w rfl hS; rw [hdn])
            | (refine WL.callL (D := [dkC q mb lb D]) hS (by repeat (first | exact Pulls.nil | (apply Pulls.cons; focus (repeat (first | exact Pull.here | apply Pull.there))))) rfl rfl (fun hI => restart_c n hI.head hI.headB hkp (by omega) hkk) rfl rfl rfl ?_; rintro v w ⟨rfl, hm⟩ hS; replace hS := hS _ (.of1 hm); clear hm)
            | (refine WL.callL (D := [rfC dk D fq]) hS (by repeat (first | exact Pulls.nil | (apply Pulls.cons; focus (repeat (first | exact Pull.here | apply Pull.there))))) rfl rfl (fun hI => rfrestart_c n hI hkp (by omega)) rfl rfl rfl ?_; rintro v w ⟨rfl, f2, hm⟩ hS; replace hS := hS _ hm; clear hm)
            | (refine WL.callL (D := [dkC q mb lb _]) hS (by repeat (first | exact Pulls.nil | (apply Pulls.cons; focus (repeat (first | exact Pull.here | apply Pull.there))))) rfl rfl (fun hI => hoc _ hI) rfl rfl rfl ?_; rintro v w ⟨L2, f3, rfl, hm⟩ hS; replace hS := hS _ hm; clear hm)
            | (refine WL.callL (D := [rfC dk _ _]) hS (by repeat (first | exact Pulls.nil | (apply Pulls.cons; focus (repeat (first | exact Pull.here | apply Pull.there))))) rfl rfl (fun hI => hrc _ _ hI) rfl rfl rfl ?_; rintro v w ⟨L4, f4, f5, rfl, hm⟩ hS; replace hS := hS _ hm; clear hm)
            | refine WL.skip rfl rfl rfl ?_
            | ((fail_if_success (refine WL.wanted rfl ?_)); refine WL.guard rfl rfl rfl (fun h => ?_) (fun h => ?_) <;> (try simp only [Classical.not_not, Bool.not_eq_true', Bool.not_eq_false', Bool.not_eq_eq_eq_not, Bool.not_true, Bool.not_false, beq_iff_eq, beq_eq_false_iff_ne, ne_eq, decide_eq_decide, decide_eq_true_eq, decide_eq_false_iff_not, Bool.and_eq_true, Bool.or_eq_true, Bool.and_eq_false_iff, Bool.or_eq_false_iff] at h) <;> (try (exfalso; first | omega | contradiction))))
          | (show WC _ _ _ _ _ _; first
            | refine WC.seq ?_
            | refine WC.region ?_
            | refine WC.skip ?_
            | refine WC.condT rfl (by with_reducible rfl) ?_
            | refine WC.condF rfl (by with_reducible rfl) ?_
            | refine WC.condF rfl (by decide) ?_)
          | refine seqQ_n ?_)
        all_goals exact endQ_n (Do, G2, L2, L4, f3, f4, f5) ⟨⟨hop2, hop G2 rfl⟩, hS.droplast2 (by repeat (first | exact Pulls.nil | (apply Pulls.cons; focus (repeat (first | exact Pull.here | apply Pull.there)))))⟩ ⟨rfl, rfl, trivial⟩ ⟨rfl, rfl, rfl, rfl, trivial⟩
  clear hcase hoc hrc hwe hop hop2 hsm hitr hDD hkk hkp hit hS hD hG
  rintro ⟨D, G, L, Lm, fp, fm, fq⟩ g5 w ⟨⟨hD, hG⟩, hS⟩
  show WC _ _ _ (lf _ [(5, .pointer (some ⟨L, 0, none⟩)), (7, .pointer (some ⟨Lm, 0, none⟩))] _ _) _ _
  have hit := hD.len
  have hgn := hG.n
  have hre := fun (w : World) (hI : InL w [lgC L q G fp]) => records_c hI (by omega)
  have hre1 := hre
  repeat' (first
    | (show WL _ _ _ _ _ _ _; first
      | refine WL.pure rfl rfl rfl rfl ?_
      | refine WL.nil ?_
      | (refine WL.calls hS rfl rfl (dread_c lP (hS.holds (dkC q mb lb D) (by repeat (first | exact List.Mem.head _ | apply List.Mem.tail))).1) rfl rfl rfl ?_; rintro v w rfl hS)
      | (refine WL.calls hS rfl rfl (rfreadI_c lP (St.rfIs hS (by repeat (first | exact Pulls.nil | (apply Pulls.cons; focus (repeat (first | exact Pull.here | apply Pull.there)))))) (by omega)) rfl rfl rfl ?_; rintro v w rfl hS)
      | (refine WL.callL (D := [lgC L q G fp]) hS (by repeat (first | exact Pulls.nil | (apply Pulls.cons; focus (repeat (first | exact Pull.here | apply Pull.there))))) rfl rfl (fun hI => hre1 _ hI) rfl rfl rfl ?_; clear hre1; rintro v w ⟨A1, c1, rfl, hm⟩ hS; replace hS := hS _ hm; clear hm)
      | (refine WL.callL (D := [lgC L q G fp]) hS (by repeat (first | exact Pulls.nil | (apply Pulls.cons; focus (repeat (first | exact Pull.here | apply Pull.there))))) rfl rfl (fun hI => hre _ hI) rfl rfl rfl ?_; clear hre; rintro v w ⟨A2, c2, rfl, hm⟩ hS; replace hS := hS _ hm; clear hm))
    | (show WC _ _ _ _ _ _; first
      | refine WC.seq ?_
      | refine WC.region ?_)
    | refine seqQ_n ?_)
  obtain ⟨_, ⟨A6, c6, rfl⟩, hfp6, hS⟩ := St.objOpen (φ := rlφ Lm dk G) (fp := fm) (hS.pull (by repeat (first | exact Pull.here | apply Pull.there)))
  dsimp only [List.cons_append, List.nil_append] at hS
  obtain ⟨_, ⟨A5, c5, l5, hR5, rfl⟩, hfp5, hS⟩ := St.objOpen (φ := rfφ dk D) (fp := fq) (hS.pull (by repeat (first | exact Pull.here | apply Pull.there)))
  dsimp only [List.cons_append, List.nil_append] at hS
  have hS := hS.droplast2 (D := [.own (.slice A1 G.recs.length c1) 9 1 G.recs.length (strs G.recs), .own (.slice A2 G.recs.length c2) 9 1 G.recs.length (strs G.recs), lgC L q G fp, dkC q mb lb D, .box Lm 60 [.pointer (some ⟨dk, 0, none⟩), str G.p, .slice A6 G.recs.length c6, .bool G.dmg], .own (.slice A6 G.recs.length c6) 9 1 G.recs.length (strs G.recs), .box dk 45 [.slice A5 l5.length c5, .slice none 0 0, .int .i64 D.steps, .int .i64 D.stamps, .int .i64 D.armed, .bool D.down], .own (.slice A5 l5.length c5) 110 7 l5.length (ris l5)]) (by repeat (first | exact Pulls.nil | (apply Pulls.cons; focus (repeat (first | exact Pull.here | apply Pull.there)))))
  have hnn : G.recs.length ≤ 1048576 := by omega
  have hap : ∀ {ob : Nat} {w0 : World} (hI : InL w0 [.own (.slice (some ⟨ob, 0, none⟩) 2 2) 56 1 2 [.slice A1 G.recs.length c1, .slice A2 G.recs.length c2], .own (.slice A1 G.recs.length c1) 9 1 G.recs.length (strs G.recs), .own (.slice A2 G.recs.length c2) 9 1 G.recs.length (strs G.recs)]),
      Cal Tryz.prog 33 [.slice (some ⟨ob, 0, none⟩) 2 2] w0 (fun v w' => v = .bool true ∧ MutL w0 w' [.own (.slice (some ⟨ob, 0, none⟩) 2 2) 56 1 2 [.slice A1 G.recs.length c1, .slice A2 G.recs.length c2], .own (.slice A1 G.recs.length c1) 9 1 G.recs.length (strs G.recs), .own (.slice A2 G.recs.length c2) 9 1 G.recs.length (strs G.recs)] []) := fun {ob w0} hI =>
    rapartS_c [⟨A1, G.recs.length, c1⟩, ⟨A2, G.recs.length, c2⟩] [ownRw encT 9 1 ⟨A1, G.recs.length, c1⟩ G.recs, ownRw encT 9 1 ⟨A2, G.recs.length, c2⟩ G.recs] hI (markS2 _ _ _ _ rfl rfl) (show (2 : Nat) ≤ 1000 by decide) (fun r hr => by simp only [List.mem_cons, List.not_mem_nil, or_false] at hr; rcases hr with rfl | rfl <;> exact hnn)
  have hsm := fun {A B : Option Addr} {ca cb : Nat} (w : World) (h1 : SlAt cStr (Old w) w A G.recs) (h2 : SlAt cStr (Old w) w B G.recs) => same_c G.recs G.recs (ca := ca) (cb := cb) h1 h2 (by omega)
  rw [decide_eq_true rfl] at hsm
  repeat' (first
    | (show WL _ _ _ _ _ _ _; first
      | refine WL.pure rfl rfl rfl rfl ?_
      | refine WL.nil ?_
      | refine WL.add rfl rfl rfl (by omega) rfl rfl rfl ?_)
    | (show WC _ _ _ _ _ _; first
      | refine WC.region ?_
      | refine WC.skip ?_
      | (show WC _ _ (Code.region _ (List.toArray [_, _, _, _, _, _, _, _, _, _, _, _, _, _, _, _, _, _, _, _, _, _, _, _, _, _, _, _, _, _, _, _, _, _, _, _, _, _, _, _, _, _, _]) true) _ _ _; refine WC.drawL [.own (.slice A1 G.recs.length c1) 9 1 G.recs.length (strs G.recs), .own (.slice A2 G.recs.length c2) 9 1 G.recs.length (strs G.recs), lgC L q G fp] hS (by repeat (first | exact Pulls.nil | (apply Pulls.cons; focus (repeat (first | exact Pull.here | apply Pull.there))))) [0,1,2,3,4,5,6,7,8,10,11,12,13,14,16,17,18,19,21,22,23,24,25,26,27,28,30,31,32,33,34,35,36,37,38,41,42] [0,1,2,3,4,5,6,7,8,9,10,11,12,13,14,15,16,17,18,19,21,22,23,24,20,25,26,27,28,30,31,32,33,29,34,35,36,37,38,39,40,41,42] (by kernel_rfl) (by kernel_rfl) ?_; clear hS; intro w hS hM)
      | refine WC.condF rfl (by decide) ?_)
    | (show WD _ _ _ _ _ _ _ _ _; first
      | refine WD.pure rfl rfl rfl rfl rfl ?_
      | refine WD.nil ?_
      | refine WD.load rfl rfl (LdOk.box (by repeat (first | exact List.Mem.head _ | apply List.Mem.tail)) rfl) rfl rfl rfl rfl ?_
      | (refine WD.calls hS hM rfl rfl (hsm _ (St.ownSl (enc := fun s => [str s]) (hsz := fun _ => rfl) (l := G.recs) (by decide) hS (by repeat (first | exact List.Mem.head _ | apply List.Mem.tail))) (St.ownSl (enc := fun s => [str s]) (hsz := fun _ => rfl) (l := G.recs) (by decide) hS (by repeat (first | exact List.Mem.head _ | apply List.Mem.tail)))) rfl rfl rfl rfl rfl ?_; clear hS; rintro v w rfl hS)
      | (refine WD.callL (D := [lgC L q G fp]) hS (by repeat (first | exact Pulls.nil | (apply Pulls.cons; focus (repeat (first | exact Pull.here | apply Pull.there))))) (by first | exact .refl _ _ | exact .chunk (.refl _ _) _ | exact .chunk (.chunk (.refl _ _) _) _) rfl rfl (fun hI => damaged_c hI) rfl rfl rfl rfl rfl ?_; rintro v w ⟨rfl, hm⟩; refine ⟨_, hm, fun hS hM => ?_⟩; clear hm)
      | (refine WD.calls hS hM rfl rfl (dstp_c (hS.holds (dkC q mb lb D) (by repeat (first | exact List.Mem.head _ | apply List.Mem.tail))).1) rfl rfl rfl rfl rfl ?_; clear hS; rintro v w rfl hS)
      | (refine WD.slit (t := 62) hS hM rfl rfl rfl rfl rfl rfl rfl ?_; clear hS hM; intro w ob hS hM; replace hS := hS.boxRow (n := 2) (size := 1) .here rfl (by decide))
      | (refine WD.callL (D := [.own (.slice (some ⟨ob, 0, none⟩) 2 2) 56 1 2 [.slice A1 G.recs.length c1, .slice A2 G.recs.length c2], .own (.slice A1 G.recs.length c1) 9 1 G.recs.length (strs G.recs), .own (.slice A2 G.recs.length c2) 9 1 G.recs.length (strs G.recs)]) hS (by repeat (first | exact Pulls.nil | (apply Pulls.cons; focus (repeat (first | exact Pull.here | apply Pull.there))))) (by first | exact .refl _ _ | exact .chunk (.refl _ _) _ | exact .chunk (.chunk (.refl _ _) _) _) rfl rfl (fun hI => hap hI) rfl rfl rfl rfl rfl ?_; rintro v w ⟨rfl, hm⟩; refine ⟨_, hm, fun hS hM => ?_⟩; clear hm)
      | ((fail_if_success (refine WD.wanted rfl ?_)); refine WD.guard rfl rfl rfl (fun h => ?_) (fun h => ?_) <;> (try simp only [Classical.not_not, Bool.not_eq_true', Bool.not_eq_false', Bool.not_eq_eq_eq_not, Bool.not_true, Bool.not_false, beq_iff_eq, beq_eq_false_iff_ne, ne_eq, decide_eq_decide, decide_eq_true_eq, decide_eq_false_iff_not, Bool.and_eq_true, Bool.or_eq_true, Bool.and_eq_false_iff, Bool.or_eq_false_iff] at h) <;> (try (exfalso; first | omega | contradiction))))
    | refine seqQ_n ?_
    | refine blkQ_n ?_)
  have hS := St.objClose (φ := rlφ Lm dk G) (hS.pulls (D := [.box Lm 60 [.pointer (some ⟨dk, 0, none⟩), str G.p, .slice A6 G.recs.length c6, .bool G.dmg], .own (.slice A6 G.recs.length c6) 9 1 G.recs.length (strs G.recs)]) (by repeat (first | exact Pulls.nil | (apply Pulls.cons; focus (repeat (first | exact Pull.here | apply Pull.there)))))) ⟨A6, c6, rfl⟩
  have hS := St.objClose (φ := rfφ dk D) (hS.pulls (D := rfL dk A5 c5 l5 D) (by repeat (first | exact Pulls.nil | (apply Pulls.cons; focus (repeat (first | exact Pull.here | apply Pull.there)))))) ⟨A5, c5, l5, hR5, rfl⟩
  subst hB1e
  exact rndQ_n (i + 1, D, G, L, Lm, fp, _, _) ⟨⟨by omega, by omega, hD, hG⟩, hS.droplast2 (by repeat (first | exact Pulls.nil | (apply Pulls.cons; focus (repeat (first | exact Pull.here | apply Pull.there)))))⟩ (by show l.length - (i + 1) < l.length - i; omega) ⟨rfl, rfl, vint (by omega), trivial⟩ ⟨rfl, rfl, rfl, trivial⟩
end Go.Proofs.YtccfiohagbneaaaGreatDoor

/- What is proved: the key of WalPlays: the law answers true. Conditions: the statement's own bound on the bulk. -/
set_option linter.unusedSimpArgs false
set_option linter.unusedVariables false
namespace Go.Proofs.YtccfiohagbneaaaGreatDoor
open Go Go.J Go.RowKit

def QStp06 (s : Stp06) (b : Nat) : Prop := (-9223372036854775808 ≤ s.n ∧ s.n ≤ 9223372036854775807) ∧ s.text.length + 1 ≤ b
theorem list3S {α : Type} {l : List α} (h : l.length = 3) : ∃ a b c, l = [a, b, c] := by match l, h with | [a, b, c], _ => exact ⟨a, b, c, rfl⟩
set_option maxRecDepth 100000 in
theorem open_stp06 : Opens Tryz.prog 37 cStp06 QStp06 := by
  intro H enc W fuel cs x h
  obtain ⟨xs, n, _, rfl, hlen, hxl, hf⟩ := DataW.trod_struct Tryz.underlying37 h
  obtain ⟨x0, x1, x2, rfl⟩ := list3S hxl
  obtain ⟨c0, c1, c2, rfl⟩ := list3S (hlen.trans (by kernel_rfl))
  obtain ⟨s0, e0, q0⟩ := Opens.int Tryz.underlying3 enc W n [c0] x0 (hf 0 _ rfl)
  obtain ⟨s1, e1, q1⟩ := Opens.str Tryz.underlying9 enc W n [c1] x1 (hf 1 _ rfl)
  obtain ⟨s2, e2, q2⟩ := Opens.int Tryz.underlying3 enc W n [c2] x2 (hf 2 _ rfl)
  have e0 : [c0] = [.int .i64 s0] := e0
  have e1 : [c1] = [str s1] := e1
  have e2 : [c2] = [.int .i64 s2] := e2
  simp only [List.cons.injEq, and_true] at e0 e1 e2
  subst e0 e1 e2
  refine ⟨⟨s0, s1, s2⟩, rfl, ⟨q2.1, q2.2.1⟩, ?_⟩
  simp [Rows.uptoBulk, Rows.uptoBulkAll] at *
  omega
instance : Inhabited Stp06 := ⟨⟨0, [], 0⟩⟩
theorem arg_stps06 : Arg Tryz.prog 22 (ASl cStp06) (QL QStp06) := Arg.slice Tryz.underlying22 (Opens.slice Tryz.underlying22 (by kernel_rfl) (by decide) open_stp06)
theorem ql_mem {α : Type} {Q : α → Nat → Prop} {ys : List α} {b : Nat} (h : QL Q ys b) : ∀ y ∈ ys, ∃ n, Q y n := by
  obtain ⟨bs, hl, hq, hs⟩ := h
  intro y hy
  obtain ⟨i, hi, rfl⟩ := List.getElem_of_mem hy
  exact ⟨_, hq i hi (by omega)⟩
theorem walPlays.key_walPlays (W : World) (hL : laidMet Tryz.prog Rows.walPlaysUptoRow.laid W) (v0 : Value) (y0 : List Stp06) (b0 : Nat) (h0 : ASl cStp06 W v0 y0) (q0 : QL QStp06 y0 b0) (hb : b0 ≤ 1048576) :
    Cal Tryz.prog 3 [v0] W (fun v W' => Upd [] W W' ∧ v = .bool true) := by
  obtain ⟨A0, c0, rfl, _, h0⟩ := h0
  have h2 := QL_sum (f := fun s : Stp06 => s.text.length + 1) (fun a b h => h.2) q0
  have h3 : ∀ l : List Stp06, (l.map fun s : Stp06 => s.text.length + 1).sum = (l.map fun s : Stp06 => s.text.length).sum + l.length := by
    intro l
    induction l with
    | nil => rfl
    | cons a l ih => simp only [List.map_cons, List.sum_cons, List.length_cons, ih]; omega
  rw [h3] at h2
  exact walPlays_c y0 h0 (by omega) fun s hs => by obtain ⟨n, h⟩ := ql_mem q0 s hs; exact h.1
end Go.Proofs.YtccfiohagbneaaaGreatDoor
