/- What is proved: contracts and plain facts that the law leans on (texts put together). Conditions: as each names them. -/
import Derived.Test.YtccfiohagbneaaaGreatDoorM4
import Derived.Shelf.SlIter.Nil
import Derived.Shelf.SortM.Plain
import Derived.Shelf.SortM.SortNone
import Derived.Shelf.Strconv.Atoi
import Derived.Shelf.Strconv.Itoa3
import Derived.Shelf.Small.Strs
import Derived.Test.YtccfiohagbneaaaGreatDoorProg
import Derived.Test.YtccfiohagbneaaaGreatDoorRows
import Derived.ProofKit
import Derived.ChangeSame
import Derived.OpenShut
import Derived.Deep.Slices
import Derived.JoinedCond
set_option linter.unusedSimpArgs false
set_option linter.unusedVariables false
/-
  DERIVED: THE SHELF's CONTRACTS AT THIS DUMP, IN PLAIN WORDS (tools/lay-plain.mjs out of 'TryzShelf.lean', which tools/lay-shelf.mjs wrote): THE SAME DECLARATIONS UNDER THE SAME NAMES: 'import', 'namespace', 'open', 'def', 'theorem' AND NOTHING ELSE: no command of the shelf's: FOR A HAND-IN. Each laying: the table of numbers ('.._ren') and one theorem, a field a fact of the dump's own or the kernel's comparison; each contract: ONE APPLICATION.
-/
namespace Go.Proofs
open Go.Shelf
def Tryz.keysL_ren : Go.Shelf.Ren := ⟨fun | 7 => 76 | 10 => 139 | n => n, fun | 23 => 119 | 26 => 9 | 3 => 128 | 28 => 125 | 0 => 0 | 27 => 124 | 33 => 107 | 4 => 4 | n => n, fun | n => n⟩
theorem Tryz.keysL : Go.Proofs.SlLaysZ.n7 Tryz.prog Tryz.keysL_ren := {
  mixed := by kernel_rfl
  f7 := ⟨Tryz.f76.name, by decide, Tryz.func76.trans (congrArg some (by kernel_rfl))⟩
  f10 := ⟨Tryz.f139.name, by decide, Tryz.func139.trans (congrArg some (by kernel_rfl))⟩
  t0 := Tryz.underlying0
  a0 := Tryz.isAgg0
  z0 := Tryz.sizeOf0
  v0 := Tryz.zeroValue0
  t4 := Tryz.underlying4
  a4 := Tryz.isAgg4
  z4 := Tryz.sizeOf4
  v4 := Tryz.zeroValue4
  t23 := Tryz.underlying119
  a23 := Tryz.isAgg119
  z23 := Tryz.sizeOf119
  v23 := Tryz.zeroValue119
  t26 := Tryz.underlying9
  a26 := Tryz.isAgg9
  z26 := Tryz.sizeOf9
  v26 := Tryz.zeroValue9
  t27 := Tryz.underlying124
  a27 := Tryz.isAgg124
  z27 := Tryz.sizeOf124
  v27 := Tryz.zeroValue124
  t28 := Tryz.underlying125
  a28 := Tryz.isAgg125
  z28 := Tryz.sizeOf125
  v28 := Tryz.zeroValue125
  t33 := Tryz.underlying107
  a33 := Tryz.isAgg107
  z33 := Tryz.sizeOf107
  v33 := Tryz.zeroValue107 }
def Tryz.sortedL_ren : Go.Shelf.Ren := ⟨fun | 6 => 75 | 8 => 137 | 9 => 138 | 11 => 179 | 13 => 181 | 12 => 180 | 23 => 211 | 24 => 212 | 14 => 202 | 15 => 203 | 16 => 204 | 17 => 205 | 18 => 206 | 19 => 207 | 20 => 208 | 21 => 209 | 22 => 210 | 25 => 226 | 26 => 227 | 27 => 228 | 28 => 229 | 29 => 230 | 30 => 231 | 31 => 240 | n => n, fun | 26 => 9 | 28 => 125 | 24 => 56 | 0 => 0 | 3 => 3 | 37 => 190 | 48 => 188 | 50 => 129 | 4 => 4 | 40 => 261 | 39 => 260 | 45 => 193 | 5 => 5 | 9 => 9 | 51 => 276 | 55 => 280 | 57 => 288 | 58 => 289 | 33 => 107 | n => n, fun | n => n⟩
theorem Tryz.sortedL : Go.Proofs.SlLaysZ.n6 Tryz.prog Tryz.sortedL_ren := {
  mixed := by kernel_rfl
  f6 := ⟨Tryz.f75.name, by decide, Tryz.func75.trans (congrArg some (by kernel_rfl))⟩
  f8 := ⟨Tryz.f137.name, by decide, Tryz.func137.trans (congrArg some (by kernel_rfl))⟩
  f11 := ⟨Tryz.f179.name, by decide, Tryz.func179.trans (congrArg some (by kernel_rfl))⟩
  t0 := Tryz.underlying0
  a0 := Tryz.isAgg0
  z0 := Tryz.sizeOf0
  v0 := Tryz.zeroValue0
  t24 := Tryz.underlying56
  a24 := Tryz.isAgg56
  z24 := Tryz.sizeOf56
  v24 := Tryz.zeroValue56
  t26 := Tryz.underlying9
  a26 := Tryz.isAgg9
  z26 := Tryz.sizeOf9
  v26 := Tryz.zeroValue9
  t28 := Tryz.underlying125
  a28 := Tryz.isAgg125
  z28 := Tryz.sizeOf125
  v28 := Tryz.zeroValue125
  i26 := by kernel_rfl }
def Tryz.sortL_ren : Go.Shelf.Ren := ⟨fun | 6 => 138 | 8 => 181 | 9 => 180 | 19 => 211 | 20 => 212 | 21 => 202 | 22 => 203 | 23 => 204 | 24 => 205 | 25 => 206 | 26 => 207 | 27 => 208 | 28 => 209 | 29 => 210 | 36 => 226 | 31 => 227 | 32 => 228 | 37 => 229 | 38 => 230 | 39 => 231 | 41 => 240 | n => n, fun | 27 => 56 | 29 => 9 | 3 => 3 | 32 => 190 | 26 => 56 | 0 => 0 | 44 => 188 | 46 => 129 | 4 => 4 | 36 => 261 | 35 => 260 | 41 => 193 | 5 => 5 | 9 => 9 | 53 => 276 | 57 => 280 | 63 => 288 | 64 => 289 | n => n, fun | n => n⟩
theorem Tryz.sortL : Go.Proofs.SlLaysM.n6 Tryz.prog Tryz.sortL_ren := {
  mixed := by kernel_rfl
  f6 := ⟨Tryz.f138.name, by decide, Tryz.func138.trans (congrArg some (by kernel_rfl))⟩
  f8 := Tryz.func181.trans (congrArg some (by kernel_rfl))
  f9 := ⟨Tryz.f180.name, by decide, Tryz.func180.trans (congrArg some (by kernel_rfl))⟩
  f19 := Tryz.func211.trans (congrArg some (by kernel_rfl))
  f20 := Tryz.func212.trans (congrArg some (by kernel_rfl))
  f21 := ⟨Tryz.f202.name, by decide, Tryz.func202.trans (congrArg some (by kernel_rfl))⟩
  f22 := ⟨Tryz.f203.name, by decide, Tryz.func203.trans (congrArg some (by kernel_rfl))⟩
  f23 := ⟨Tryz.f204.name, by decide, Tryz.func204.trans (congrArg some (by kernel_rfl))⟩
  f24 := ⟨Tryz.f205.name, by decide, Tryz.func205.trans (congrArg some (by kernel_rfl))⟩
  f25 := ⟨Tryz.f206.name, by decide, Tryz.func206.trans (congrArg some (by kernel_rfl))⟩
  f26 := ⟨Tryz.f207.name, by decide, Tryz.func207.trans (congrArg some (by kernel_rfl))⟩
  f27 := ⟨Tryz.f208.name, by decide, Tryz.func208.trans (congrArg some (by kernel_rfl))⟩
  f28 := ⟨Tryz.f209.name, by decide, Tryz.func209.trans (congrArg some (by kernel_rfl))⟩
  f29 := ⟨Tryz.f210.name, by decide, Tryz.func210.trans (congrArg some (by kernel_rfl))⟩
  f31 := Tryz.func227.trans (congrArg some (by kernel_rfl))
  f32 := Tryz.func228.trans (congrArg some (by kernel_rfl))
  f36 := ⟨Tryz.f226.name, by decide, Tryz.func226.trans (congrArg some (by kernel_rfl))⟩
  f37 := ⟨Tryz.f229.name, by decide, Tryz.func229.trans (congrArg some (by kernel_rfl))⟩
  f38 := ⟨Tryz.f230.name, by decide, Tryz.func230.trans (congrArg some (by kernel_rfl))⟩
  f39 := ⟨Tryz.f231.name, by decide, Tryz.func231.trans (congrArg some (by kernel_rfl))⟩
  f41 := ⟨Tryz.f240.name, by decide, Tryz.func240.trans (congrArg some (by kernel_rfl))⟩
  t0 := Tryz.underlying0
  a0 := Tryz.isAgg0
  z0 := Tryz.sizeOf0
  v0 := Tryz.zeroValue0
  t3 := Tryz.underlying3
  a3 := Tryz.isAgg3
  z3 := Tryz.sizeOf3
  v3 := Tryz.zeroValue3
  t4 := Tryz.underlying4
  a4 := Tryz.isAgg4
  z4 := Tryz.sizeOf4
  v4 := Tryz.zeroValue4
  t5 := Tryz.underlying5
  a5 := Tryz.isAgg5
  z5 := Tryz.sizeOf5
  v5 := Tryz.zeroValue5
  t9 := Tryz.underlying9
  a9 := Tryz.isAgg9
  z9 := Tryz.sizeOf9
  v9 := Tryz.zeroValue9
  t26 := Tryz.underlying56
  a26 := Tryz.isAgg56
  z26 := Tryz.sizeOf56
  v26 := Tryz.zeroValue56
  t27 := Tryz.underlying56
  a27 := Tryz.isAgg56
  z27 := Tryz.sizeOf56
  v27 := Tryz.zeroValue56
  t29 := Tryz.underlying9
  a29 := Tryz.isAgg9
  z29 := Tryz.sizeOf9
  v29 := Tryz.zeroValue9
  t32 := Tryz.underlying190
  a32 := Tryz.isAgg190
  z32 := Tryz.sizeOf190
  v32 := Tryz.zeroValue190
  t35 := Tryz.underlying260
  a35 := Tryz.isAgg260
  z35 := Tryz.sizeOf260
  v35 := Tryz.zeroValue260
  t36 := Tryz.underlying261
  a36 := Tryz.isAgg261
  z36 := Tryz.sizeOf261
  v36 := Tryz.zeroValue261
  t41 := Tryz.underlying193
  a41 := Tryz.isAgg193
  z41 := Tryz.sizeOf193
  v41 := Tryz.zeroValue193
  t44 := Tryz.underlying188
  a44 := Tryz.isAgg188
  z44 := Tryz.sizeOf188
  v44 := Tryz.zeroValue188
  t46 := Tryz.underlying129
  a46 := Tryz.isAgg129
  z46 := Tryz.sizeOf129
  v46 := Tryz.zeroValue129
  t53 := Tryz.underlying276
  a53 := Tryz.isAgg276
  z53 := Tryz.sizeOf276
  v53 := Tryz.zeroValue276
  t57 := Tryz.underlying280
  a57 := Tryz.isAgg280
  z57 := Tryz.sizeOf280
  v57 := Tryz.zeroValue280
  t63 := Tryz.underlying288
  a63 := Tryz.isAgg288
  z63 := Tryz.sizeOf288
  v63 := Tryz.zeroValue288
  t64 := Tryz.underlying289
  a64 := Tryz.isAgg289
  z64 := Tryz.sizeOf289
  v64 := Tryz.zeroValue289 }
def Tryz.keysVL_ren : Go.Shelf.Ren := ⟨fun | 7 => 98 | 10 => 155 | n => n, fun | 23 => 137 | 26 => 9 | 3 => 157 | 28 => 125 | 0 => 0 | 27 => 124 | 33 => 107 | 4 => 4 | n => n, fun | n => n⟩
theorem Tryz.keysVL : Go.Proofs.SlLaysZ.n7 Tryz.prog Tryz.keysVL_ren := {
  mixed := by kernel_rfl
  f7 := ⟨Tryz.f98.name, by decide, Tryz.func98.trans (congrArg some (by kernel_rfl))⟩
  f10 := ⟨Tryz.f155.name, by decide, Tryz.func155.trans (congrArg some (by kernel_rfl))⟩
  t0 := Tryz.underlying0
  a0 := Tryz.isAgg0
  z0 := Tryz.sizeOf0
  v0 := Tryz.zeroValue0
  t4 := Tryz.underlying4
  a4 := Tryz.isAgg4
  z4 := Tryz.sizeOf4
  v4 := Tryz.zeroValue4
  t23 := Tryz.underlying137
  a23 := Tryz.isAgg137
  z23 := Tryz.sizeOf137
  v23 := Tryz.zeroValue137
  t26 := Tryz.underlying9
  a26 := Tryz.isAgg9
  z26 := Tryz.sizeOf9
  v26 := Tryz.zeroValue9
  t27 := Tryz.underlying124
  a27 := Tryz.isAgg124
  z27 := Tryz.sizeOf124
  v27 := Tryz.zeroValue124
  t28 := Tryz.underlying125
  a28 := Tryz.isAgg125
  z28 := Tryz.sizeOf125
  v28 := Tryz.zeroValue125
  t33 := Tryz.underlying107
  a33 := Tryz.isAgg107
  z33 := Tryz.sizeOf107
  v33 := Tryz.zeroValue107 }
def Tryz.keysNL_ren : Go.Shelf.Ren := ⟨fun | 7 => 168 | 10 => 198 | n => n, fun | 23 => 227 | 26 => 9 | 3 => 94 | 28 => 125 | 0 => 0 | 27 => 124 | 33 => 107 | 4 => 4 | n => n, fun | n => n⟩
theorem Tryz.keysNL : Go.Proofs.SlLaysZ.n7 Tryz.prog Tryz.keysNL_ren := {
  mixed := by kernel_rfl
  f7 := ⟨Tryz.f168.name, by decide, Tryz.func168.trans (congrArg some (by kernel_rfl))⟩
  f10 := ⟨Tryz.f198.name, by decide, Tryz.func198.trans (congrArg some (by kernel_rfl))⟩
  t0 := Tryz.underlying0
  a0 := Tryz.isAgg0
  z0 := Tryz.sizeOf0
  v0 := Tryz.zeroValue0
  t4 := Tryz.underlying4
  a4 := Tryz.isAgg4
  z4 := Tryz.sizeOf4
  v4 := Tryz.zeroValue4
  t23 := Tryz.underlying227
  a23 := Tryz.isAgg227
  z23 := Tryz.sizeOf227
  v23 := Tryz.zeroValue227
  t26 := Tryz.underlying9
  a26 := Tryz.isAgg9
  z26 := Tryz.sizeOf9
  v26 := Tryz.zeroValue9
  t27 := Tryz.underlying124
  a27 := Tryz.isAgg124
  z27 := Tryz.sizeOf124
  v27 := Tryz.zeroValue124
  t28 := Tryz.underlying125
  a28 := Tryz.isAgg125
  z28 := Tryz.sizeOf125
  v28 := Tryz.zeroValue125
  t33 := Tryz.underlying107
  a33 := Tryz.isAgg107
  z33 := Tryz.sizeOf107
  v33 := Tryz.zeroValue107 }
def Tryz.itoaL_ren : Go.Shelf.Ren := ⟨fun | 171 => 157 | 243 => 187 | 246 => 215 | 283 => 233 | 284 => 234 | 285 => 235 | 286 => 236 | 129 => 212 | 317 => 245 | 318 => 246 | 319 => 247 | 320 => 248 | 337 => 252 | 338 => 253 | n => n, fun | 3 => 3 | 9 => 9 | 2 => 2 | 4 => 4 | 171 => 282 | 0 => 0 | 53 => 129 | 37 => 191 | 5 => 5 | 173 => 284 | 212 => 292 | 51 => 188 | 20 => 20 | 213 => 293 | 46 => 190 | 232 => 298 | 233 => 299 | n => n, fun | 17 => 1 | 18 => 2 | 19 => 3 | n => n⟩
theorem Tryz.itoaL : Go.Proofs.LaysM.n171 Tryz.prog Tryz.itoaL_ren := {
  mixed := by kernel_rfl
  f129 := Tryz.func212.trans (congrArg some (by kernel_rfl))
  f171 := Tryz.func157.trans (congrArg some (by kernel_rfl))
  f243 := Tryz.func187.trans (congrArg some (by kernel_rfl))
  f246 := Tryz.func215.trans (congrArg some (by kernel_rfl))
  f283 := Tryz.func233.trans (congrArg some (by kernel_rfl))
  f284 := Tryz.func234.trans (congrArg some (by kernel_rfl))
  f285 := Tryz.func235.trans (congrArg some (by kernel_rfl))
  f286 := Tryz.func236.trans (congrArg some (by kernel_rfl))
  f317 := Tryz.func245.trans (congrArg some (by kernel_rfl))
  f318 := Tryz.func246.trans (congrArg some (by kernel_rfl))
  f319 := Tryz.func247.trans (congrArg some (by kernel_rfl))
  f320 := Tryz.func248.trans (congrArg some (by kernel_rfl))
  f337 := Tryz.func252.trans (congrArg some (by kernel_rfl))
  f338 := Tryz.func253.trans (congrArg some (by kernel_rfl))
  t0 := Tryz.underlying0
  a0 := Tryz.isAgg0
  z0 := Tryz.sizeOf0
  v0 := Tryz.zeroValue0
  t2 := Tryz.underlying2
  a2 := Tryz.isAgg2
  z2 := Tryz.sizeOf2
  v2 := Tryz.zeroValue2
  t3 := Tryz.underlying3
  a3 := Tryz.isAgg3
  z3 := Tryz.sizeOf3
  v3 := Tryz.zeroValue3
  t4 := Tryz.underlying4
  a4 := Tryz.isAgg4
  z4 := Tryz.sizeOf4
  v4 := Tryz.zeroValue4
  t5 := Tryz.underlying5
  a5 := Tryz.isAgg5
  z5 := Tryz.sizeOf5
  v5 := Tryz.zeroValue5
  t9 := Tryz.underlying9
  a9 := Tryz.isAgg9
  z9 := Tryz.sizeOf9
  v9 := Tryz.zeroValue9
  t20 := Tryz.underlying20
  a20 := Tryz.isAgg20
  z20 := Tryz.sizeOf20
  v20 := Tryz.zeroValue20
  t37 := Tryz.underlying191
  a37 := Tryz.isAgg191
  z37 := Tryz.sizeOf191
  v37 := Tryz.zeroValue191
  t46 := Tryz.underlying190
  a46 := Tryz.isAgg190
  z46 := Tryz.sizeOf190
  v46 := Tryz.zeroValue190
  t51 := Tryz.underlying188
  a51 := Tryz.isAgg188
  z51 := Tryz.sizeOf188
  v51 := Tryz.zeroValue188
  t53 := Tryz.underlying129
  a53 := Tryz.isAgg129
  z53 := Tryz.sizeOf129
  v53 := Tryz.zeroValue129
  t171 := Tryz.underlying282
  a171 := Tryz.isAgg282
  z171 := Tryz.sizeOf282
  v171 := Tryz.zeroValue282
  t173 := Tryz.underlying284
  a173 := Tryz.isAgg284
  z173 := Tryz.sizeOf284
  v173 := Tryz.zeroValue284
  t212 := Tryz.underlying292
  a212 := Tryz.isAgg292
  z212 := Tryz.sizeOf292
  v212 := Tryz.zeroValue292
  t213 := Tryz.underlying293
  a213 := Tryz.isAgg293
  z213 := Tryz.sizeOf293
  t232 := Tryz.underlying298
  a232 := Tryz.isAgg298
  z232 := Tryz.sizeOf298
  v232 := Tryz.zeroValue298
  t233 := Tryz.underlying299
  a233 := Tryz.isAgg299
  z233 := Tryz.sizeOf299
  v233 := Tryz.zeroValue299
  g17 := by kernel_rfl
  g18 := by kernel_rfl
  g19 := by kernel_rfl
  i0 := by kernel_rfl
  i2 := by kernel_rfl
  i3 := by kernel_rfl
  i4 := by kernel_rfl
  i5 := by kernel_rfl
  i9 := by kernel_rfl
  i20 := by kernel_rfl
  i37 := by kernel_rfl
  i46 := by kernel_rfl
  i51 := by kernel_rfl
  i53 := by kernel_rfl
  i171 := by kernel_rfl
  i173 := by kernel_rfl
  i212 := by kernel_rfl
  i232 := by kernel_rfl
  i233 := by kernel_rfl
  m17 := by kernel_rfl
  m18 := by kernel_rfl
  m19 := by kernel_rfl }
def Tryz.compareL_ren : Go.Shelf.Ren := ⟨fun | 106 => 192 | 213 => 219 | 265 => 237 | n => n, fun | 9 => 9 | 3 => 3 | n => n, fun | n => n⟩
theorem Tryz.compareL : Go.Proofs.Lays.n106 Tryz.prog Tryz.compareL_ren := {
  mixed := by kernel_rfl
  f106 := Tryz.func192.trans (congrArg some (by kernel_rfl))
  f213 := Tryz.func219.trans (congrArg some (by kernel_rfl))
  f265 := Tryz.func237.trans (congrArg some (by kernel_rfl))
  t3 := Tryz.underlying3
  a3 := Tryz.isAgg3
  z3 := Tryz.sizeOf3
  v3 := Tryz.zeroValue3
  t9 := Tryz.underlying9
  a9 := Tryz.isAgg9
  z9 := Tryz.sizeOf9
  v9 := Tryz.zeroValue9 }
end Go.Proofs

/- What is proved: 'slices.Sorted(maps.Keys(m))' gives the keys, rising. Conditions: the map is not nil, its keys and their number are bounded. -/
set_option linter.unusedSimpArgs false
set_option linter.unusedVariables false
namespace Go.Proofs.YtccfiohagbneaaaGreatDoor
open Go Go.J Go.RowKit Go.Maps Go.Sort Go.Shelf

def anyR : Value → Option (DataW Unit × List MemPlace) := fun _ => some (.nil, [])
theorem own_of_map {P : Program} {k : TypeId} {b : Nat} {m : KV} {w : World} (hk : P.underlying k = some .string) (h : MapIs b m w) (hl : m.length ≤ maxLen) (hkl : ∀ p ∈ m, p.1.length ≤ maxLen) :
    ∃ D0 : DataW Unit, w.ownsMap P k anyR b m.length D0 ∧ (strKeys D0).Perm (m.map Prod.fst) ∧ Maps.size D0 = m.length := by
  obtain ⟨hnd, es, clock, hb, hkv, hbn, hbc⟩ := h
  have hlen : es.length = m.length := by have := congrArg List.length hkv; simpa [kvs, kvm] using this
  have hkeys : es.map (·.key) = m.map fun p => str p.1 := by
    have := congrArg (List.map Prod.fst) hkv
    simpa [kvs, kvm, List.map_map, Function.comp_def] using this
  have hrd : ∀ x ∈ es, ∃ s, x.key = str s ∧ WideElems.rd P k anyR x = some (.string s, .nil) := fun x hx => by
    have hm : x.key ∈ es.map (·.key) := List.mem_map_of_mem hx
    rw [hkeys] at hm
    obtain ⟨p, hp, he⟩ := List.mem_map.1 hm
    refine ⟨p.1, he.symm, ?_⟩
    unfold WideElems.rd
    rw [← he, WideMaps.keyOf_string_mk hk (show (⟨⟨p.1⟩⟩ : ByteArray).size ≤ maxLen from by rw [size_mk]; exact hkl p hp)]
    rfl
  refine ⟨.map ((es.map (WideElems.rg P k anyR)).foldr DataW.insert []), ⟨⟨es⟩, clock, hb, ⟨by simpa [hlen] using hl, ⟨by simpa using hbc, by simpa using hbn, ?_⟩, fun x hx => ?_⟩, by simp [hlen], rfl⟩, ?_, ?_⟩
  · simp only
    rw [hkeys]
    have : (m.map fun p => str p.1) = (m.map Prod.fst).map str := by simp [List.map_map, Function.comp_def]
    rw [this]
    refine List.Pairwise.map (S := fun a b => a ≠ b) str (fun a b h e => h ?_) hnd
    simpa [str] using e
  · obtain ⟨s, _, h2⟩ := hrd x (by simpa using hx)
    exact ⟨_, h2⟩
  · have hp : ((es.map (WideElems.rg P k anyR)).foldr DataW.insert []).Perm (es.map (WideElems.rg P k anyR)) := Go.WideShapes.sorted_perm _
    refine (hp.map fun p => strOf p.1).trans ?_
    rw [List.map_map]
    have e : es.map ((fun p => strOf p.1) ∘ WideElems.rg P k anyR) = m.map Prod.fst := by
      have h1 : (es.map fun x => x.key) = ((m.map Prod.fst).map str) := by rw [hkeys]; simp [List.map_map, Function.comp_def]
      have h2 : ∀ x ∈ es, str (((fun p => strOf p.1) ∘ WideElems.rg P k anyR) x) = x.key := fun x hx => by
        obtain ⟨s, h1, h2⟩ := hrd x hx
        simp only [Function.comp_def, WideElems.rg, h2, Option.getD_some, strOf, h1]
      have h3 : (es.map ((fun p => strOf p.1) ∘ WideElems.rg P k anyR)).map str = (m.map Prod.fst).map str := by
        rw [← h1, List.map_map]
        exact List.map_congr_left h2
      exact (List.map_inj_right (f := str) (fun a b h => by simpa [str] using h)).1 h3
    rw [e]
  · have hp : ((es.map (WideElems.rg P k anyR)).foldr DataW.insert []).Perm (es.map (WideElems.rg P k anyR)) := Go.WideShapes.sorted_perm _
    have := hp.length_eq
    rw [List.length_map] at this
    rw [← hlen, ← this]
    rfl

theorem sortsL (m : Nat) : AnyZ.SortsIn Tryz.prog Tryz.sortedL_ren Fence.wide m :=
  ⟨fun blk off cap ss W hH hblk hsz => callsIn_wide.2 (AnyM.slices_Sort_string Tryz.sortL blk off cap ss W hH hblk hsz),
   fun p cap W => callsIn_wide.2 (AnyM.slices_Sort_string_none Tryz.sortL p cap W)⟩
def keysT : TypeId := Tryz.keysL_ren.t 23 -- 76
theorem mapsKeys_c (mb : Nat) (w : World) : Cal Tryz.prog 76 [.map (some mb)] w fun v w' => v = .func (.func 139) ⟨[]⟩ ⟨[.pointer (some ⟨w.heap.size, 0, none⟩)]⟩ ∧ w' = w.alloc (.cells ⟨[.map (some mb)]⟩ keysT) :=
  ⟨by kernel_rfl, (callsIn_wide.1 (AnyZ.keys_in Tryz.keysL Fence.wide 5 trivial rfl (some mb) w)).mono fun e w' ⟨h1, h2⟩ => ⟨_, h1, rfl, h2⟩⟩
theorem mapsKeys_n (mb : Nat) (w : World) : Cal Tryz.prog 76 [.map (some mb)] w fun v w' => ∃ x, v = .func (.func 139) ⟨[]⟩ ⟨[.pointer (some ⟨x, 0, none⟩)]⟩ ∧ Upd [] w w' ∧ New w w' (.box x keysT [.map (some mb)]) :=
  (mapsKeys_c mb w).mono fun v w' ⟨h1, h2⟩ => by
    subst h2
    have hh := heap_alloc_new w (.cells ⟨[.map (some mb)]⟩ keysT)
    exact ⟨_, h1, .alloc _ _ _, ⟨hh, fun b hb => by simp [Chunk.fp] at hb; subst hb; simp⟩⟩
theorem sorted_c {x mb : Nat} {m : KV} {w : World} (hx : w.heap[x]? = some (.cells ⟨[.map (some mb)]⟩ keysT (0, 0))) (hm : MapIs mb m w) (hl : m.length ≤ 1048576) (hkl : ∀ p ∈ m, p.1.length ≤ 1099511627776) :
    Cal Tryz.prog 75 [.func (.func 139) ⟨[]⟩ ⟨[.pointer (some ⟨x, 0, none⟩)]⟩] w fun v w' => Upd [] w w' ∧ ∃ A cap, v = .slice A m.length cap ∧
      New w w' (.own (.slice A m.length cap) 9 1 m.length (strs ((m.map Prod.fst).mergeSort (fun x y => decide (x ≤ y))))) := by
  have hmx : m.length ≤ maxLen := by unfold maxLen; omega
  obtain ⟨D0, hown, hperm, hsz⟩ := own_of_map Tryz.underlying9 hm hmx (fun p hp => by have := hkl p hp; unfold maxLen; omega)
  have hxl : x < w.heap.size := (Array.getElem?_eq_some_iff.1 hx).1
  have hseq : SeqGives Fence.wide 2 Tryz.prog 139 #[.pointer (some ⟨x, 0, none⟩)] encStr (fun ss => ss.Perm (strKeys D0)) (Maps.size D0) w :=
    AnyZ.keys_gives (ρ := Tryz.keysL_ren) { Tryz.keysL with } Fence.wide _ trivial rfl (by omega) x mb m.length D0 _ hxl (by rw [cell_of_row w x 0 _ _ _ hx]; rfl) hown
  have cS := AnyZ.sorted_in Tryz.sortedL Fence.wide 5 trivial trivial trivial trivial rfl (by omega) (sortsL _) (enters_of Tryz.func138 (by kernel_rfl) rfl) 139 #[.pointer (some ⟨x, 0, none⟩)] trivial (enters_of Tryz.func139 (by kernel_rfl) rfl) _ _ (by rw [hsz]; exact hmx) (by rw [hsz]; omega) _ hseq
  change CallsIn _ _ Tryz.prog 75 _ _ _ at cS
  refine ⟨by kernel_rfl, (callsIn_wide.1 cS).mono fun e w' ⟨v, ss, he, hS, hrow, hnil, hb⟩ => ⟨v, he, .of_below hb, ?_⟩⟩
  have hp : ss.Perm (m.map Prod.fst) := hS.trans hperm
  have hlen : ss.length = m.length := by rw [hp.length_eq, List.length_map]
  have hms : ss.mergeSort (fun x y => decide (x ≤ y)) = (m.map Prod.fst).mergeSort (fun x y => decide (x ≤ y)) := mergeSort_of_perm hp
  rw [hms, hlen] at hrow
  have hst : ((m.map Prod.fst).mergeSort (fun x y => decide (x ≤ y))).map encStr = strs ((m.map Prod.fst).mergeSort (fun x y => decide (x ≤ y))) := by
    generalize (m.map Prod.fst).mergeSort (fun x y => decide (x ≤ y)) = l
    induction l with
    | nil => rfl
    | cons a l ih => simp only [List.map_cons, ih]; rfl
  rw [hst] at hrow
  have hrow' := hrow
  rcases hrow.2 with ⟨rfl, hz⟩ | ⟨g, cap, cur, rfl, hg, hh, _⟩
  · refine ⟨none, 0, by rw [hz], ⟨?_, fun b hb => by simp [Chunk.fp, Value.ownBlock] at hb⟩⟩
    have := RowAt.of_owns hrow
    rwa [hz] at this ⊢
  · exact ⟨_, _, rfl, ⟨RowAt.of_owns hrow', fun b hb => by
      simp [Chunk.fp, Value.ownBlock] at hb
      subst hb
      exact ⟨hg, (Array.getElem?_eq_some_iff.1 hh).1⟩⟩⟩
end Go.Proofs.YtccfiohagbneaaaGreatDoor

/- What is proved: what the disk's Arm and Restart do. Conditions: files of bounded length, of which what is kept is no longer than what is seen where it has only grown. -/
set_option linter.unusedSimpArgs false
set_option linter.unusedVariables false
namespace Go.J
open Go Go.RowKit
section
variable {P : Program} {N : Fz} {f : Fr} {w w0 : World} {Q : Post} {ops l : List Oper} {o : Oper} {M : List Nat} {H H' : List Chunk} {Z : List Snap} {ρ : Operand → Value}
theorem run_remU {ty ty' : TypeId} {x y : Operand} {a b : Int} (ho : o.op = .binOp .rem ty x y ty') (hx : ρ x = .int .u64 a) (hy : ρ y = .int .u64 b) (ha : 0 ≤ a) (hb : 0 < b ∧ b < 18446744073709551616) :
    (execOp ρ o).run P w = .ok (.value (.int .u64 (a % b))) w := by
  have h0 : ¬ b = 0 := by omega
  have h1 : (eqGuard .rem ty x y (.int .u64 a) (.int .u64 b)).run P w = .ok () w := by simp [eqGuard]
  have h2 : (binOp .rem ty (.int .u64 a) (.int .u64 b)).run P w = .ok (.int .u64 (a % b)) w := by
    have e1 := Int.emod_nonneg a h0
    have e2 := Int.emod_lt_of_pos a hb.1
    have e3 : IntKind.u64.wrap (a % b) = a % b := by rw [IntKind.wrap_u64]; omega
    simp [binOp, Op.intDiv, h0, Int.tmod_eq_emod_of_nonneg ha, e3]
  simp only [execOp, ho, hx, hy, Sem.run_bind, h1, h2, Result.andThen_ok]
  rfl
theorem WL.remU {ty ty' : TypeId} {x y : Operand} {a b : Int} (ho : o.op = .binOp .rem ty x y ty') (hx : ev f x = .int .u64 a) (hy : ev f y = .int .u64 b) (ha : 0 ≤ a) (hb : 0 < b ∧ b < 18446744073709551616)
    (hg : wants ops f o = true) {d : Nat} (hd : o.dst = some d) (hn : N.ok d = true) (h : WL P N ops l (up f d (.int .u64 (a % b))) w Q) : WL P N ops (o :: l) f w Q := .val hg hd hn (run_remU ho hx hy ha hb) h
theorem wrapU {a : Int} (h : 0 ≤ a ∧ a < 18446744073709551616) : IntKind.u64.wrap a = a := by rw [IntKind.wrap_u64]; omega
theorem WL.subU {ty ty' : TypeId} {x y : Operand} {a b : Int} (ho : o.op = .binOp .sub ty x y ty') (hx : ev f x = .int .u64 a) (hy : ev f y = .int .u64 b) (hr : 0 ≤ a - b ∧ a - b < 18446744073709551616)
    (hg : wants ops f o = true) {d : Nat} (hd : o.dst = some d) (hn : N.ok d = true) (h : WL P N ops l (up f d (.int .u64 (a - b))) w Q) : WL P N ops (o :: l) f w Q := by
  refine WL.subW ho hx hy hg hd hn ?_
  rw [wrapU hr]; exact h
def toU64 (P : Program) (s d : TypeId) : Bool := match P.underlying s, P.underlying d with
  | some (.int _), some (.int .u64) => true
  | _, _ => false
theorem WL.convU {s d' : TypeId} {x : Operand} {k : IntKind} {a : Int} (ho : o.op = .convert s d' x) (ht : toU64 P s d' = true) (hx : ev f x = .int k a) (hr : 0 ≤ a ∧ a < 18446744073709551616)
    (hg : wants ops f o = true) {d : Nat} (hd : o.dst = some d) (hn : N.ok d = true) (h : WL P N ops l (up f d (.int .u64 a)) w Q) : WL P N ops (o :: l) f w Q := by
  refine .pure (v := .int .u64 a) ?_ hg hd hn h
  unfold toU64 at ht
  split at ht
  · rename_i k1 h1 h2
    unfold pureV
    rw [ho]
    simp only [pureOp, h1, h2, hx, wrapU hr]
    rfl
  · cases ht
end
section
variable {P : Program} {N : Fz} {f : Fr} {w w0 : World} {Q : Post} {ops : List Oper} {M : List Nat} {H0 H H' : List Chunk} {Z0 Z : List Snap} {q : Qs} {l : List Nat} {i : Nat} {S : World → Prop}
theorem WD.remU {ty ty' : TypeId} {x y : Operand} {a b : Int} (ho : (ix ops i).op = .binOp .rem ty x y ty') (hx : ev f x = .int .u64 a) (hy : ev f y = .int .u64 b) (ha : 0 ≤ a) (hb : 0 < b ∧ b < 18446744073709551616)
    (hq : q.contains i = true) (hg : wants ops f (ix ops i) = true) {d : Nat} (hd : (ix ops i).dst = some d) (hn : N.ok d = true) (h : WD P N S ops q l (up f d (.int .u64 (a % b))) w Q) : WD P N S ops q (i :: l) f w Q :=
  .take hq hd hn (.inl ⟨hg, fun _ _ => run_remU ho hx hy ha hb⟩) h
theorem WD.convU {s d' : TypeId} {x : Operand} {k : IntKind} {a : Int} (ho : (ix ops i).op = .convert s d' x) (ht : toU64 P s d' = true) (hx : ev f x = .int k a) (hr : 0 ≤ a ∧ a < 18446744073709551616)
    (hq : q.contains i = true) (hg : wants ops f (ix ops i) = true) {d : Nat} (hd : (ix ops i).dst = some d) (hn : N.ok d = true) (h : WD P N S ops q l (up f d (.int .u64 a)) w Q) : WD P N S ops q (i :: l) f w Q := by
  refine .pure (v := .int .u64 a) ?_ hq hg hd hn h
  unfold toU64 at ht
  split at ht
  · rename_i k1 h1 h2
    unfold pureV
    rw [ho]
    simp only [pureOp, h1, h2, hx, wrapU hr]
    rfl
  · cases ht
end
end Go.J
namespace Go.Proofs.YtccfiohagbneaaaGreatDoor
open Go Go.J Go.RowKit

def Dk.arm (D : Dk) (n : Int) : Dk := { D with armed := max (-1) n }
set_option maxHeartbeats 4000000 in
set_option maxRecDepth 100000 in
theorem arm_c {q mb lb : Nat} {D : Dk} (n : Int) {w0 : World} (hc : (dkC q mb lb D).holds w0) (hi : inB (dkC q mb lb D) w0) :
    Cal Tryz.prog 19 [.pointer (some ⟨q, 0, none⟩), .int .i64 n] w0 (fun v w' => v = .tuple #[] ∧ Mut w0 w' (dkC q mb lb D) (dkC q mb lb (D.arm n))) := by
  refine Cal.mkM hc hi (by kernel_rfl) Tryz.func19 rfl rfl fun hS => ?_
  obtain ⟨h1, h2, h3, hS⟩ := St.dkOpen hS
  replace hS : St w0 (dkC q mb lb D).fp w0 [.box q 122 [.map (some mb), .map (some lb), .int .i64 D.steps, .int .i64 D.stamps, .int .i64 D.armed, .bool D.down], mapC mb (mmap encIt D.items), mapC lb (mmap encI D.limits)] _ := hS
  repeat' (first
    | (show WL _ _ _ _ _ _ _; first
      | refine WL.pure rfl rfl rfl rfl ?_
      | refine WL.nil ?_
      | refine WL.maxI rfl rfl rfl rfl rfl rfl ?_
      | (refine WL.store hS rfl rfl rfl (by repeat (first | exact StB.here rfl | apply StB.there)) rfl rfl rfl ?_; intro w hS))
    | (show WC _ _ _ _ _ _; first
      | refine WC.seq ?_
      | refine WC.region ?_
      | refine WC.condT rfl (by decide) ?_)
    | refine seqQ_n ?_)
  exact fin0n rfl ⟨rfl, (St.dkClose (D.arm n) h1 h2 h3 hS).mutOf (List.Mem.head _)⟩
def mixS (x s : Int) : Int := bits .xor .u64 x (shrI .u64 x s)
/-- a number that looks like chance -/
def mixE (loss n : Int) : Int := mixS (IntKind.u64.wrap (mixS (IntKind.u64.wrap (mixS (IntKind.u64.wrap (loss + IntKind.u64.wrap (n * 11400714819323198485))) 30 * 13787848793156543929)) 27 * 10723151780598845931)) 31
theorem mixE_in (loss n : Int) : 0 ≤ mixE loss n ∧ mixE loss n < 18446744073709551616 := by
  have h : ∀ y, 0 ≤ IntKind.u64.wrap y ∧ IntKind.u64.wrap y < 18446744073709551616 := fun y => by rw [IntKind.wrap_u64]; omega
  exact h _
set_option maxHeartbeats 4000000 in
set_option maxRecDepth 100000 in
theorem mix_c (loss n : Int) (w0 : World) : Cal Tryz.prog 77 [.int .u64 loss, .int .u64 n] w0 (fun v w' => Upd [] w0 w' ∧ v = .int .u64 (mixE loss n)) := by
  refine Cal.mk' (by kernel_rfl) Tryz.func77 rfl rfl fun hS => ?_
  repeat' (first
    | (show WL _ _ _ _ _ _ _; first
      | refine WL.pure rfl rfl rfl rfl ?_
      | refine WL.nil ?_
      | (refine WL.shr rfl rfl rfl (by decide) rfl rfl rfl ?_))
    | (show WC _ _ _ _ _ _; first
      | refine WC.seq ?_
      | refine WC.region ?_
      | refine WC.ret ?_)
    | refine seqQ_n ?_)
  exact fin1r rfl rfl ⟨hS.upd, rfl⟩
/-- what is kept of a file that wasn't synced -/
def loseK (loss n : Int) (x : It) : List UInt8 :=
  if x.anew then (if 0 < mixE (IntKind.u64.wrap loss) n % ((x.data.length : Int) + 2) then x.data.take (mixE (IntKind.u64.wrap loss) n % ((x.data.length : Int) + 2) - 1).toNat else x.kept)
  else x.data.take ((x.kept.length : Int) + mixE (IntKind.u64.wrap loss) n % ((x.data.length : Int) - x.kept.length + 1)).toNat
def lose1 (loss : Int) (s : Int × Dk) (p : List UInt8) : Int × Dk :=
  if (s.2.at p).loose then (s.1 + 1, s.2.set p { s.2.at p with data := loseK loss (s.1 + 1) (s.2.at p), kept := loseK loss (s.1 + 1) (s.2.at p), loose := false, anew := false }) else s
def Dk.keys (D : Dk) : List (List UInt8) := (D.items.map Prod.fst).mergeSort (fun x y => decide (x ≤ y))
def Dk.lose (D : Dk) (loss : Int) : Int × Dk := D.keys.foldl (lose1 loss) (0, D)
def Dk.restart (D : Dk) (loss : Int) : Dk := { (D.lose loss).2 with down := false, armed := -1 }
/-- no file is great, and where one has only grown, what is kept is no more than what is seen -/
def Dk.Kp (D : Dk) (B : Nat) : Prop := ∀ x ∈ D.items, x.2.data.length ≤ B ∧ x.2.kept.length ≤ B ∧ (x.2.loose = true → x.2.anew = false → x.2.kept.length ≤ x.2.data.length)
theorem Dk.Kp.at_ {D : Dk} {B : Nat} (h : D.Kp B) (p : List UInt8) : (D.at p).data.length ≤ B ∧ (D.at p).kept.length ≤ B ∧ ((D.at p).loose = true → (D.at p).anew = false → (D.at p).kept.length ≤ (D.at p).data.length) := by
  unfold Dk.at
  cases e : mget D.items p with
  | none => exact ⟨Nat.zero_le _, Nat.zero_le _, fun h => by cases h⟩
  | some x => exact h _ (mget_mem e)
theorem loseK_len (loss n : Int) (x : It) {B : Nat} (h1 : x.data.length ≤ B) (h2 : x.kept.length ≤ B) : (loseK loss n x).length ≤ B := by
  unfold loseK
  repeat' split
  all_goals first | exact h2 | (rw [List.length_take]; omega)
theorem lose1_Kp {loss : Int} {s : Int × Dk} {p : List UInt8} {B : Nat} (h : s.2.Kp B) : (lose1 loss s p).2.Kp B := by
  unfold lose1
  split
  · intro y hy
    rcases mem_mset hy with h1 | h1
    · exact h y h1
    · rw [h1]
      have := loseK_len loss (s.1 + 1) (s.2.at p) (h.at_ p).1 (h.at_ p).2.1
      exact ⟨this, this, fun hh => by cases hh⟩
  · exact h
theorem u64_nat {a : Int} {n : Nat} (h : a = (n : Int)) : Value.int .u64 a = .int .u64 (Int.ofNat n) := by rw [h]; rfl
set_option maxHeartbeats 16000000 in
set_option maxRecDepth 100000 in
theorem restart_c {q mb lb : Nat} {D : Dk} (loss : Int) {w0 : World} (hc : (dkC q mb lb D).holds w0) (hi : inB (dkC q mb lb D) w0) (hk : D.Kp 1099511627776) (hn : D.items.length ≤ 1048576) (hkk : ∀ x ∈ D.items, x.1.length ≤ 1099511627) :
    Cal Tryz.prog 20 [.pointer (some ⟨q, 0, none⟩), .int .i64 loss] w0 (fun v w' => v = .int .i64 0 ∧ Mut w0 w' (dkC q mb lb D) (dkC q mb lb (D.restart loss))) := by
  refine Cal.mkM hc hi (by kernel_rfl) Tryz.func20 rfl rfl fun hS => ?_
  have hkl : D.keys.length = D.items.length := by unfold Dk.keys; rw [(List.mergeSort_perm _ _).length_eq, List.length_map]
  have hml : (mmap encIt D.items).length = D.items.length := by unfold mmap; rw [List.length_map]
  have hmk : (mmap encIt D.items).map Prod.fst = D.items.map Prod.fst := by unfold mmap; rw [List.map_map]; rfl
  have hks : ((mmap encIt D.items).map Prod.fst).mergeSort (fun x y => decide (x ≤ y)) = D.keys := by rw [hmk]; rfl
  have hmkk : ∀ p ∈ mmap encIt D.items, p.1.length ≤ 1099511627776 := fun p hp => by
    obtain ⟨x, hx, rfl⟩ := List.mem_map.1 hp
    have := hkk x hx
    show x.1.length ≤ _
    omega
  repeat' (first
    | (show WL _ _ _ _ _ _ _; first
      | refine WL.pure rfl rfl rfl rfl ?_
      | refine WL.nil ?_
      | (refine WL.load hS rfl rfl (LdOk.dk (D := D) (by repeat (first | exact List.Mem.head _ | apply List.Mem.tail)) rfl) rfl rfl rfl ?_)
      | (refine WL.callG rfl rfl (mapsKeys_n mb _) rfl rfl rfl ?_; rintro v w ⟨x, rfl, hu, hnw⟩; replace hS := hS.new hu hnw; clear hu hnw)
      | (refine WL.callG rfl rfl (sorted_c (m := mmap encIt D.items) (hS.holds (.box x keysT [.map (some mb)]) (by repeat (first | exact List.Mem.head _ | apply List.Mem.tail))) (hS.holds (dkC q mb lb D) (by repeat (first | exact List.Mem.head _ | apply List.Mem.tail))).1.2.2.2.2.1 (by rw [hml]; exact hn) hmkk) rfl rfl rfl ?_; rintro v w ⟨hu, A, cap, rfl, hnw⟩; rw [hks, hml] at hnw; rw [hml]; replace hS := hS.new hu hnw; clear hu hnw))
    | (show WC _ _ _ _ _ _; first
      | refine WC.seq ?_
      | refine WC.region ?_
      | refine WC.block ?_
      | refine WC.skip ?_
      | refine WC.condF rfl (by with_reducible rfl) ?_)
    | refine seqQ_n ?_)
  refine WC.loop (σ := Nat × Int × Dk) [0, 1, 18, 19] (fun (k, n, E) => [(5, .int .i64 n), (20, .int .i64 (k : Int))])
    (fun (k, n, E) w => k ≤ D.items.length ∧ 0 ≤ n ∧ n ≤ k ∧ E.Kp 1099511627776 ∧ (D.keys.drop k).foldl (lose1 loss) (n, E) = D.lose loss ∧ St w0 _ w [.own (.slice A D.items.length cap) 9 1 D.items.length (strs D.keys), .box x keysT [.map (some mb)], dkC q mb lb E] _)
    (fun (k, _) => D.items.length - k) (0, 0, D) ⟨Nat.zero_le _, Int.le_refl _, Int.le_refl _, hk, rfl, hS⟩ ⟨rfl, rfl, trivial⟩ ?_
  clear hS
  rintro ⟨k, n, E⟩ g w ⟨hk', h0, hnk, hKp, hfold, hS⟩
  show WC _ _ _ (lf _ [(5, .int .i64 n), (20, .int .i64 (k : Int))] _ _) _ _
  by_cases hlt : k < D.items.length
  · have hlt2 : k < D.keys.length := by omega
    obtain ⟨ga, oa, rfl⟩ := hS.own_addr (List.Mem.head _) (by omega)
    have hx : (strs D.keys)[k * 1]? = some (str D.keys[k]) := by rw [Nat.mul_one]; exact strs_at hlt2
    have hstep : D.keys.drop k = D.keys[k] :: D.keys.drop (k + 1) := List.drop_eq_getElem_cons hlt2
    rw [hstep, List.foldl_cons] at hfold
    clear hstep
    generalize D.keys[k] = p at *
    have hat := hKp.at_ p
    have hKp' := lose1_Kp (loss := loss) (s := (n, E)) (p := p) hKp
    have hlk := look_it E.items p
    have hE : E.at p = (mget E.items p).getD It0 := rfl
    rw [← hE] at hlk
    clear hE
    have hl1 : lose1 loss (n, E) p = if (E.at p).loose then (n + 1, E.set p { E.at p with data := loseK loss (n + 1) (E.at p), kept := loseK loss (n + 1) (E.at p), loose := false, anew := false }) else (n, E) := rfl
    rw [hl1] at hfold hKp'
    clear hl1
    generalize E.at p = it at *
    obtain ⟨dir, dat, kept, loose, anew, stamp⟩ := it
    dsimp only at *
    have hlk : lookV (encIt It0) (mmap encIt E.items) p false = .agg ⟨[.bool dir, str dat, str kept, .bool loose, .bool anew, .int .i64 stamp]⟩ := hlk
    have hpk := mixE_in (IntKind.u64.wrap loss) (n + 1)
    cases loose with
    | false =>
      rw [if_neg (by decide)] at hfold hKp'
      repeat' (first
        | (show WL _ _ _ _ _ _ _; first
          | refine WL.pure rfl rfl rfl rfl ?_
          | refine WL.nil ?_
          | refine WL.load hS rfl rfl (LdOk.box (by repeat (first | exact List.Mem.head _ | apply List.Mem.tail)) rfl) rfl rfl rfl ?_
          | refine WL.add rfl rfl rfl (by omega) rfl rfl rfl ?_
          | (refine WL.load hS rfl rfl (LdOk.ownAt (by repeat (first | exact List.Mem.head _ | apply List.Mem.tail)) rfl ⟨_, rfl⟩ hx rfl) rfl rfl rfl ?_)
          | (refine WL.load hS rfl rfl (LdOk.dk (D := E) (by repeat (first | exact List.Mem.head _ | apply List.Mem.tail)) rfl) rfl rfl rfl ?_)
          | (refine WL.mget hS rfl rfl rfl rfl (MapOk.dk (D := E) (by repeat (first | exact List.Mem.head _ | apply List.Mem.tail))) hlk rfl rfl rfl ?_)
          | (refine WL.store hS rfl rfl rfl (by repeat (first | exact StB.here rfl | apply StB.there)) rfl rfl rfl ?_; intro w hS)
          | (refine WL.alloc hS rfl rfl rfl rfl rfl rfl ?_; intro w b hS)
          | refine WL.index rfl rfl rfl rfl (by first | with_reducible assumption | omega) rfl rfl rfl rfl ?_)
        | (show WC _ _ _ _ _ _; first
          | refine WC.seq ?_
          | refine WC.region ?_
          | refine WC.block ?_
          | refine WC.skip ?_
          | refine WC.exit ?_
          | refine WC.condT rfl (by decide) ?_
          | refine WC.condT rfl (decide_eq_true (by first | with_reducible assumption | omega)) ?_)
        | refine seqQ_n ?_
        | refine seqQ_x ?_
        | refine blkQ_hit rfl ?_)
      exact rndQ_n (k + 1, n, E) ⟨by omega, h0, by show n ≤ ((k + 1 : Nat) : Int); omega, hKp, hfold, hS.drop⟩ (by show D.items.length - (k + 1) < D.items.length - k; omega) ⟨rfl, vint (by omega), trivial⟩ ⟨rfl, rfl, rfl, rfl, trivial⟩
    | true =>
      rw [if_pos rfl] at hfold hKp'
      cases anew with
      | true =>
        have he0 := Int.emod_nonneg (mixE (IntKind.u64.wrap loss) (n + 1)) (show ((dat.length : Int) + 2) ≠ 0 by omega)
        have he1 := Int.emod_lt_of_pos (mixE (IntKind.u64.wrap loss) (n + 1)) (show (0 : Int) < (dat.length : Int) + 2 by omega)
        obtain ⟨mm, hmm⟩ : ∃ mm : Nat, mixE (IntKind.u64.wrap loss) (n + 1) % ((dat.length : Int) + 2) = (mm : Int) := ⟨_, (Int.toNat_of_nonneg he0).symm⟩
        rw [hmm] at he0 he1
        have hK : loseK loss (n + 1) ⟨dir, dat, kept, true, true, stamp⟩ = if 0 < mm then dat.take (mm - 1) else kept := by
          unfold loseK
          rw [if_pos rfl]
          dsimp only
          rw [hmm]
          by_cases hz : 0 < mm
          · rw [if_pos (by omega), if_pos hz]; congr 1; omega
          · rw [if_neg (by omega), if_neg hz]
        rw [hK] at hfold hKp'
        clear hK
        by_cases hz : 0 < mm
        · have hm1 : (mm : Int) - 1 = ((mm - 1 : Nat) : Int) := by omega
          rw [if_pos hz] at hfold hKp'
          repeat' (first
            | (show WL _ _ _ _ _ _ _; first
              | (refine WL.convU rfl rfl rfl (by omega) rfl rfl rfl ?_)
              | (refine WL.subU rfl rfl rfl (by omega) rfl rfl rfl ?_; rw [hm1])
              | refine WL.pure rfl rfl rfl rfl ?_
              | refine WL.nil ?_
              | refine WL.load hS rfl rfl (LdOk.box (by repeat (first | exact List.Mem.head _ | apply List.Mem.tail)) rfl) rfl rfl rfl ?_
              | refine WL.add rfl rfl rfl (by omega) rfl rfl rfl ?_
              | (refine WL.load hS rfl rfl (LdOk.ownAt (by repeat (first | exact List.Mem.head _ | apply List.Mem.tail)) rfl ⟨_, rfl⟩ hx rfl) rfl rfl rfl ?_)
              | (refine WL.load hS rfl rfl (LdOk.dk (D := E) (by repeat (first | exact List.Mem.head _ | apply List.Mem.tail)) rfl) rfl rfl rfl ?_)
              | (refine WL.mget hS rfl rfl rfl rfl (MapOk.dk (D := E) (by repeat (first | exact List.Mem.head _ | apply List.Mem.tail))) hlk rfl rfl rfl ?_)
              | (refine WL.calls hS rfl rfl (mix_c (IntKind.u64.wrap loss) (n + 1) _) rfl rfl rfl ?_; rintro v w rfl hS)
              | (refine WL.remU rfl rfl rfl (by omega) (by omega) rfl rfl rfl ?_; rw [hmm])
              | (refine WL.callL (D := [dkC q mb lb E]) hS (by repeat (first | exact Pulls.nil | (apply Pulls.cons; focus (repeat (first | exact Pull.here | apply Pull.there))))) rfl rfl (fun hI => dset_c p ⟨dir, dat.take (mm - 1), dat.take (mm - 1), false, false, stamp⟩ hI.head hI.headB) rfl rfl rfl ?_; rintro v w ⟨rfl, hm⟩ hS; replace hS := hS _ (.of1 hm); clear hm)
              | refine WL.highS rfl rfl rfl rfl (by omega) rfl rfl rfl ?_
              | (refine WL.store hS rfl rfl rfl (by repeat (first | exact StB.here rfl | apply StB.there)) rfl rfl rfl ?_; intro w hS)
              | (refine WL.alloc hS rfl rfl rfl rfl rfl rfl ?_; intro w b hS)
              | refine WL.index rfl rfl rfl rfl (by first | with_reducible assumption | omega) rfl rfl rfl rfl ?_)
            | (show WC _ _ _ _ _ _; first
              | refine WC.seq ?_
              | refine WC.region ?_
              | refine WC.block ?_
              | refine WC.skip ?_
              | refine WC.condT rfl (by with_reducible rfl) ?_
              | refine WC.condF rfl (by decide) ?_
              | refine WC.condT rfl (decide_eq_true (by first | with_reducible assumption | omega)) ?_)
            | refine seqQ_n ?_
            | refine blkQ_n ?_)
          exact rndQ_n (k + 1, n + 1, E.set p ⟨dir, dat.take (mm - 1), dat.take (mm - 1), false, false, stamp⟩) ⟨by omega, by show 0 ≤ n + 1; omega, by show n + 1 ≤ ((k + 1 : Nat) : Int); omega, hKp', hfold, hS.droplast2 (by repeat (first | exact Pulls.nil | (apply Pulls.cons; focus (repeat (first | exact Pull.here | apply Pull.there)))))⟩ (by show D.items.length - (k + 1) < D.items.length - k; omega) ⟨rfl, vint (by omega), trivial⟩ ⟨rfl, rfl, rfl, rfl, trivial⟩
        · rw [if_neg hz] at hfold hKp'
          repeat' (first
            | (show WL _ _ _ _ _ _ _; first
              | (refine WL.convU rfl rfl rfl (by omega) rfl rfl rfl ?_)
              | refine WL.pure rfl rfl rfl rfl ?_
              | refine WL.nil ?_
              | refine WL.load hS rfl rfl (LdOk.box (by repeat (first | exact List.Mem.head _ | apply List.Mem.tail)) rfl) rfl rfl rfl ?_
              | refine WL.add rfl rfl rfl (by omega) rfl rfl rfl ?_
              | (refine WL.load hS rfl rfl (LdOk.ownAt (by repeat (first | exact List.Mem.head _ | apply List.Mem.tail)) rfl ⟨_, rfl⟩ hx rfl) rfl rfl rfl ?_)
              | (refine WL.load hS rfl rfl (LdOk.dk (D := E) (by repeat (first | exact List.Mem.head _ | apply List.Mem.tail)) rfl) rfl rfl rfl ?_)
              | (refine WL.mget hS rfl rfl rfl rfl (MapOk.dk (D := E) (by repeat (first | exact List.Mem.head _ | apply List.Mem.tail))) hlk rfl rfl rfl ?_)
              | (refine WL.calls hS rfl rfl (mix_c (IntKind.u64.wrap loss) (n + 1) _) rfl rfl rfl ?_; rintro v w rfl hS)
              | (refine WL.remU rfl rfl rfl (by omega) (by omega) rfl rfl rfl ?_; rw [hmm])
              | (refine WL.callL (D := [dkC q mb lb E]) hS (by repeat (first | exact Pulls.nil | (apply Pulls.cons; focus (repeat (first | exact Pull.here | apply Pull.there))))) rfl rfl (fun hI => dset_c p ⟨dir, kept, kept, false, false, stamp⟩ hI.head hI.headB) rfl rfl rfl ?_; rintro v w ⟨rfl, hm⟩ hS; replace hS := hS _ (.of1 hm); clear hm)
              | (refine WL.store hS rfl rfl rfl (by repeat (first | exact StB.here rfl | apply StB.there)) rfl rfl rfl ?_; intro w hS)
              | (refine WL.alloc hS rfl rfl rfl rfl rfl rfl ?_; intro w b hS)
              | refine WL.index rfl rfl rfl rfl (by first | with_reducible assumption | omega) rfl rfl rfl rfl ?_)
            | (show WC _ _ _ _ _ _; first
              | refine WC.seq ?_
              | refine WC.region ?_
              | refine WC.block ?_
              | refine WC.skip ?_
              | refine WC.condT rfl (by with_reducible rfl) ?_
              | refine WC.condF rfl (by decide) ?_
              | refine WC.condT rfl (decide_eq_true (by first | with_reducible assumption | omega)) ?_
              | refine WC.condF rfl (decide_eq_false (by first | with_reducible assumption | omega)) ?_)
            | refine seqQ_n ?_
            | refine blkQ_n ?_)
          exact rndQ_n (k + 1, n + 1, E.set p ⟨dir, kept, kept, false, false, stamp⟩) ⟨by omega, by show 0 ≤ n + 1; omega, by show n + 1 ≤ ((k + 1 : Nat) : Int); omega, hKp', hfold, hS.droplast2 (by repeat (first | exact Pulls.nil | (apply Pulls.cons; focus (repeat (first | exact Pull.here | apply Pull.there)))))⟩ (by show D.items.length - (k + 1) < D.items.length - k; omega) ⟨rfl, vint (by omega), trivial⟩ ⟨rfl, rfl, rfl, rfl, trivial⟩
      | false =>
        have hkd := hat.2.2 rfl rfl
        have he0 := Int.emod_nonneg (mixE (IntKind.u64.wrap loss) (n + 1)) (show ((dat.length : Int) - kept.length + 1) ≠ 0 by omega)
        have he1 := Int.emod_lt_of_pos (mixE (IntKind.u64.wrap loss) (n + 1)) (show (0 : Int) < (dat.length : Int) - kept.length + 1 by omega)
        obtain ⟨mm, hmm⟩ : ∃ mm : Nat, mixE (IntKind.u64.wrap loss) (n + 1) % ((dat.length : Int) - kept.length + 1) = (mm : Int) := ⟨_, (Int.toNat_of_nonneg he0).symm⟩
        rw [hmm] at he0 he1
        have hK : loseK loss (n + 1) ⟨dir, dat, kept, true, false, stamp⟩ = dat.take (kept.length + mm) := by
          unfold loseK
          rw [if_neg (show ¬ false = true by decide)]
          dsimp only
          rw [hmm]
          congr 1
        rw [hK] at hfold hKp'
        clear hK
        repeat' (first
          | (show WL _ _ _ _ _ _ _; first
            | (refine WL.convU rfl rfl rfl (by omega) rfl rfl rfl ?_)
            | refine WL.pure rfl rfl rfl rfl ?_
            | refine WL.nil ?_
            | refine WL.load hS rfl rfl (LdOk.box (by repeat (first | exact List.Mem.head _ | apply List.Mem.tail)) rfl) rfl rfl rfl ?_
            | refine WL.add rfl rfl rfl (by omega) rfl rfl rfl ?_
            | (refine WL.load hS rfl rfl (LdOk.ownAt (by repeat (first | exact List.Mem.head _ | apply List.Mem.tail)) rfl ⟨_, rfl⟩ hx rfl) rfl rfl rfl ?_)
            | (refine WL.load hS rfl rfl (LdOk.dk (D := E) (by repeat (first | exact List.Mem.head _ | apply List.Mem.tail)) rfl) rfl rfl rfl ?_)
            | (refine WL.mget hS rfl rfl rfl rfl (MapOk.dk (D := E) (by repeat (first | exact List.Mem.head _ | apply List.Mem.tail))) hlk rfl rfl rfl ?_)
            | (refine WL.calls hS rfl rfl (mix_c (IntKind.u64.wrap loss) (n + 1) _) rfl rfl rfl ?_; rintro v w rfl hS)
            | (refine WL.callL (D := [dkC q mb lb E]) hS (by repeat (first | exact Pulls.nil | (apply Pulls.cons; focus (repeat (first | exact Pull.here | apply Pull.there))))) rfl rfl (fun hI => dset_c p ⟨dir, dat.take (kept.length + mm), dat.take (kept.length + mm), false, false, stamp⟩ hI.head hI.headB) rfl rfl rfl ?_; rintro v w ⟨rfl, hm⟩ hS; replace hS := hS _ (.of1 hm); clear hm)
            | (refine WL.store hS rfl rfl rfl (by repeat (first | exact StB.here rfl | apply StB.there)) rfl rfl rfl ?_; intro w hS)
            | (refine WL.alloc hS rfl rfl rfl rfl rfl rfl ?_; intro w b hS)
            | refine WL.index rfl rfl rfl rfl (by first | with_reducible assumption | omega) rfl rfl rfl rfl ?_)
          | (show WC _ _ _ _ _ _; first
            | refine WC.seq ?_
            | refine WC.region ?_
            | refine WC.block ?_
            | refine WC.skip ?_
            | (show WC _ _ (Code.region _ (List.toArray [_, _, _, _, _, _, _, _, _, _, _, _, _, _, _, _, _, _, _, _, _]) true) _ _ _; refine WC.drawV hS [0,1,2,3,4,5,6,7,8,9,10,11,12,13,14,15,16,17,18,19] [0,1,2,3,4,5,6,7,8,9,10,11,12,13,14,15,16,17,18,19] 20 [] (by kernel_rfl) (by kernel_rfl) ?_; clear hS; intro w hS hM)
            | refine WC.condF rfl (by with_reducible rfl) ?_
            | refine WC.condF rfl (by decide) ?_
            | refine WC.condT rfl (decide_eq_true (by first | with_reducible assumption | omega)) ?_)
          | (show WD _ _ _ _ _ _ _ _ _; first
            | (refine WD.convU rfl rfl rfl (by omega) rfl rfl rfl rfl ?_)
            | refine WD.pure rfl rfl rfl rfl rfl ?_
            | refine WD.nil ?_
            | refine WD.load rfl rfl (LdOk.box (by repeat (first | exact List.Mem.head _ | apply List.Mem.tail)) rfl) rfl rfl rfl rfl ?_
            | refine WD.add rfl rfl rfl (by omega) rfl rfl rfl rfl ?_
            | refine WD.sub rfl rfl rfl (by omega) rfl rfl rfl rfl ?_
            | (refine WD.remU rfl rfl rfl (by omega) (by omega) rfl rfl rfl rfl ?_; rw [hmm])
            | (refine WD.highS rfl rfl rfl rfl (by omega) rfl rfl rfl rfl ?_)
            | (refine WD.pivStore hS rfl rfl rfl (by repeat (first | exact StB.here rfl | apply StB.there)) rfl rfl rfl rfl ?_; clear hS; intro w hS hM)
            | refine WD.conv64 rfl rfl rfl (by omega) rfl rfl rfl rfl ?_)
          | refine seqQ_n ?_
          | refine blkQ_n ?_)
        exact rndQ_n (k + 1, n + 1, E.set p ⟨dir, dat.take (kept.length + mm), dat.take (kept.length + mm), false, false, stamp⟩) ⟨by omega, by show 0 ≤ n + 1; omega, by show n + 1 ≤ ((k + 1 : Nat) : Int); omega, hKp', hfold, hS.droplast2 (by repeat (first | exact Pulls.nil | (apply Pulls.cons; focus (repeat (first | exact Pull.here | apply Pull.there)))))⟩ (by show D.items.length - (k + 1) < D.items.length - k; omega) ⟨rfl, vint (by omega), trivial⟩ ⟨rfl, rfl, rfl, rfl, trivial⟩
  · have hke : k = D.items.length := by omega
    subst hke
    rw [← hkl, List.drop_length, List.foldl_nil] at hfold
    have hS := hS.droplast2 (D := [dkC q mb lb E]) (by repeat (first | exact Pulls.nil | (apply Pulls.cons; focus (repeat (first | exact Pull.here | apply Pull.there)))))
    have hR : D.restart loss = { E with down := false, armed := -1 } := by unfold Dk.restart; rw [← hfold]
    rw [hR]
    obtain ⟨h1, h2, h3, hS⟩ := St.dkOpen hS
    replace hS : St w0 _ w [.box q 122 [.map (some mb), .map (some lb), .int .i64 E.steps, .int .i64 E.stamps, .int .i64 E.armed, .bool E.down], mapC mb (mmap encIt E.items), mapC lb (mmap encI E.limits)] _ := hS
    repeat' (first
      | (show WL _ _ _ _ _ _ _; first
        | refine WL.pure rfl rfl rfl rfl ?_
        | refine WL.nil ?_
        | (refine WL.store hS rfl rfl rfl (by repeat (first | exact StB.here rfl | apply StB.there)) rfl rfl rfl ?_; intro w hS))
      | (show WC _ _ _ _ _ _; first
        | refine WC.seq ?_
        | refine WC.region ?_
        | refine WC.exit ?_
        | refine WC.ret ?_
        | refine WC.condF rfl (decide_eq_false (by first | with_reducible assumption | omega)) ?_)
      | refine seqQ_n ?_
      | refine seqQ_x ?_
      | refine blkQ_hit rfl ?_
      | refine rndQ_x ?_)
    exact fin1r rfl rfl ⟨rfl, (St.dkClose { E with down := false, armed := -1 } h1 h2 h3 hS).mutOf (List.Mem.head _)⟩
end Go.Proofs.YtccfiohagbneaaaGreatDoor

/- What is proved: 'slices.Sort' of a row of texts that the caller owns. Conditions: bounded length. -/
set_option linter.unusedSimpArgs false
set_option linter.unusedVariables false
namespace Go.Proofs.YtccfiohagbneaaaGreatDoor
open Go Go.J Go.RowKit Go.Maps Go.Sort Go.Shelf

theorem strs_enc (l : List (List UInt8)) : l.map encStr = strs l := by
  induction l with
  | nil => rfl
  | cons a l ih => simp only [List.map_cons, ih]; rfl
theorem RowAt.put {w : World} {e : TypeId} {g off n cap : Nat} {xs : List Value} (h : RowAt w e 1 (.slice (some ⟨g, off, none⟩) n cap) n xs) (ys : List (List UInt8)) (hy : ys.length = n) (k : Nat) (os : Array Obj) :
    RowAt (grow (putRow encStr (Sort.ahead w k) g off ys.toArray) os) e 1 (.slice (some ⟨g, off, none⟩) n cap) n (strs ys) ∧ Upd [g] w (grow (putRow encStr (Sort.ahead w k) g off ys.toArray) os) := by
  rcases h.2 with ⟨e0, _⟩ | ⟨g', off', cap', cur, e0, hg, hn, hm, hs, ht⟩
  · cases e0
  · simp only [Value.slice.injEq, Option.some.injEq, Addr.mk.injEq, true_and, and_true] at e0
    obtain ⟨⟨rfl, rfl⟩, rfl⟩ := e0
    have hlt : g < w.heap.size := (Array.getElem?_eq_some_iff.1 hg).1
    have hsz : (putRow encStr (Sort.ahead w k) g off ys.toArray).heap.size = w.heap.size := by rw [Go.Sort.size_putRow]; rfl
    have hput : (putRow encStr (Sort.ahead w k) g off ys.toArray).heap[g]? = some (.cells (putCells encStr off ys.toArray ⟨cur⟩) e (0, 0)) := by
      simp [putRow, mapBlock, Sort.ahead, Array.getElem?_modify, hg, onCells]
    have hgr : ∀ b, b < w.heap.size → (grow (putRow encStr (Sort.ahead w k) g off ys.toArray) os).heap[b]? = (putRow encStr (Sort.ahead w k) g off ys.toArray).heap[b]? := fun b hb => by
      show ((putRow encStr (Sort.ahead w k) g off ys.toArray).heap ++ os)[b]? = _
      rw [Array.getElem?_append_left (by rw [hsz]; exact hb)]
    refine ⟨⟨by rw [strs_len, hy, Nat.mul_one], .inr ⟨g, off, cap, (putCells encStr off ys.toArray ⟨cur⟩).toList, rfl, ?_, hn, hm, ?_, ?_⟩⟩, ⟨rfl, rfl, rfl, ?_, fun b hb hnb => ?_⟩⟩
    · rw [hgr g hlt, hput]
    · simpa [putCells] using hs
    · apply List.ext_getElem?
      intro j
      rw [List.getElem?_take, List.getElem?_drop, Array.getElem?_toList, ← strs_enc, List.getElem?_map]
      by_cases hj : j < n
      · have hjc : off + j < cur.length := by omega
        simp only [Nat.mul_one, if_pos hj, putCells, Array.getElem?_mapIdx]
        rw [show (Array.mk cur)[off + j]? = some cur[off + j] from by rw [show (Array.mk cur) = cur.toArray from rfl, List.getElem?_toArray]; exact List.getElem?_eq_getElem hjc]
        simp only [Option.map_some]
        rw [if_pos (by simp; omega), List.getElem?_eq_getElem (by omega)]
        simp [getElem!_pos, show j < ys.length by omega]
      · rw [if_neg (by omega), List.getElem?_eq_none (by omega)]
        rfl
    · show w.heap.size ≤ ((putRow encStr (Sort.ahead w k) g off ys.toArray).heap ++ os).size
      rw [Array.size_append, hsz]
      exact Nat.le_add_right _ _
    · rw [hgr b hb]
      have hne : ¬ g = b := fun e => hnb (by rw [← e]; exact List.mem_cons_self ..)
      simp [putRow, mapBlock, Sort.ahead, Array.getElem?_modify, hne]
theorem RowAt.holdsS {w : World} {e : TypeId} {g off n cap : Nat} {l : List (List UInt8)} (h : RowAt w e 1 (.slice (some ⟨g, off, none⟩) n cap) n (strs l)) (hl : l.length = n) : Holds encStr w g off l.toArray := by
  intro j hj
  have hj' : j < l.length := by simpa using hj
  rcases h.2 with ⟨e0, _⟩ | ⟨g', off', cap', cur, e0, hg, hn, hm, hs, ht⟩
  · cases e0
  · simp only [Value.slice.injEq, Option.some.injEq, Addr.mk.injEq, true_and, and_true] at e0
    obtain ⟨⟨rfl, rfl⟩, rfl⟩ := e0
    refine ⟨?_, by simp [World.frozen?, hg]⟩
    have hc := h.cells j (str l[j]) (by rw [strs_at hj'])
    rw [hc]
    simp [getElem!_pos, hj', encStr]
theorem sort_perm' {a b : List (List UInt8)} (h : a.Perm b) : a.mergeSort (fun x y => decide (x ≤ y)) = b.mergeSort (fun x y => decide (x ≤ y)) := mergeSort_of_perm h
/-- a row of texts sorted -/
theorem sort_c {A : Option Addr} {cap : Nat} {l : List (List UInt8)} {w0 : World} (hc : (Chunk.own (.slice A l.length cap) 9 1 l.length (strs l)).holds w0) (hi : inB (.own (.slice A l.length cap) 9 1 l.length (strs l)) w0) (hl : l.length ≤ 1099511627776) :
    Cal Tryz.prog 138 [.slice A l.length cap] w0 (fun v w' => v = .tuple #[] ∧ Mut w0 w' (.own (.slice A l.length cap) 9 1 l.length (strs l)) (.own (.slice A l.length cap) 9 1 l.length (strs (l.mergeSort (fun x y => decide (x ≤ y)))))) := by
  rcases l with _ | ⟨x, l⟩
  · exact ⟨by kernel_rfl, (AnyM.slices_Sort_string_none Tryz.sortL A cap w0).mono fun e w' ⟨h1, h2⟩ => ⟨_, h1, rfl, by rw [h2, List.mergeSort_nil]; exact ⟨.refl _ _, hc, fun b hb => .inl hb⟩⟩⟩
  · generalize hll : x :: l = ll at *
    have hpos : 0 < ll.length := by rw [← hll]; simp
    have hA : ∃ g off, A = some ⟨g, off, none⟩ := by
      rcases hc.2 with ⟨e0, hz⟩ | ⟨g, off, cap', cur, e0, _⟩
      · omega
      · simp only [Value.slice.injEq] at e0; exact ⟨g, off, e0.1⟩
    obtain ⟨g, off, rfl⟩ := hA
    have hg : g < w0.heap.size := hi g (by simp [Chunk.fp, Value.ownBlock])
    refine ⟨by kernel_rfl, (AnyM.slices_Sort_string Tryz.sortL g off cap ll w0 (RowAt.holdsS hc rfl) hg (by omega)).mono fun e w' ⟨h1, n, os, h2⟩ => ⟨_, h1, rfl, ?_⟩⟩
    subst h2
    have hlen : (ll.mergeSort (fun x y => decide (x ≤ y))).length = ll.length := (List.mergeSort_perm _ _).length_eq
    obtain ⟨r1, r2⟩ := RowAt.put hc (ll.mergeSort (fun x y => decide (x ≤ y))) hlen n os
    exact ⟨by simpa [Chunk.fp, Value.ownBlock] using r2, r1, fun b hb => .inl hb⟩
end Go.Proofs.YtccfiohagbneaaaGreatDoor

/- What is proved: the order of a list of items is the order in which the program looks at its items. Conditions: none. -/
set_option linter.unusedSimpArgs false
set_option linter.unusedVariables false
namespace Go.Proofs.YtccfiohagbneaaaGreatDoor
open Go Go.J Go.RowKit
theorem less_iff : ∀ {a b : List UInt8}, Op.bytesLess a b = true ↔ a < b
  | [], [] => by simp [Op.bytesLess]
  | _ :: _, [] => by simp [Op.bytesLess]
  | [], _ :: _ => by simp [Op.bytesLess]
  | x :: a, y :: b => by
    rw [List.cons_lt_cons_iff]
    unfold Op.bytesLess
    simp only [Bool.or_eq_true, decide_eq_true_eq, Bool.and_eq_true, beq_iff_eq]
    rw [less_iff]
theorem less_le {a b : List UInt8} (h : Op.bytesLess a b = true) : a ≤ b := by
  show ¬ b < a
  intro h2
  have h3 := less_iff.2 h2
  rw [less_asym h] at h3
  cases h3
theorem rise_paths {l : List Ri} (h : RiseG Ri.path Op.bytesLess l) : RiseG id Op.bytesLess (l.map Ri.path) := List.pairwise_map.2 h
/-- the paths of a list of items are the map's keys in their order -/
theorem RepL.keys {l : List Ri} {D : Dk} (h : RepL l D.items) : l.map Ri.path = D.keys := by
  have h1 : (l.map Ri.path).Nodup := h.rise.nodup bytesO
  have h2 : (l.map Ri.path).Perm (D.items.map Prod.fst) := (List.perm_ext_iff_of_nodup h1 h.nd).2 fun p => by
    constructor
    · intro hp
      obtain ⟨x, hx, rfl⟩ := List.mem_map.1 hp
      exact List.mem_map.2 ⟨_, mget_mem (h.mem hx), rfl⟩
    · intro hp
      obtain ⟨⟨q, i⟩, hx, rfl⟩ := List.mem_map.1 hp
      exact List.mem_map.2 ⟨_, h.at_ (mget_it h.nd hx), rfl⟩
  unfold Dk.keys
  rw [← sort_perm' h2, List.mergeSort_of_pairwise]
  exact (rise_paths h.rise).imp fun hh => decide_eq_true (less_le hh)
theorem keys_same {D E : Dk} (h : D.items.map Prod.fst = E.items.map Prod.fst) : D.keys = E.keys := by unfold Dk.keys; rw [h]
theorem set_keys {D : Dk} {p : List UInt8} {x : It} (h : p ∈ D.items.map Prod.fst) : (D.set p x).keys = D.keys := keys_same (by
  show (mset D.items p _).map Prod.fst = _
  rw [mset_keys, if_pos h])
end Go.Proofs.YtccfiohagbneaaaGreatDoor

/- What is proved: what the reference's disk does: Restart. Conditions: a disk of bounded size. -/
set_option linter.unusedSimpArgs false
set_option linter.unusedVariables false
namespace Go.Proofs.YtccfiohagbneaaaGreatDoor
open Go Go.J Go.RowKit
theorem shr_quo (x s : Int) (h : 0 ≤ s ∧ s ≤ 64) (hx : 0 ≤ x) : shrI .u64 x s = x / 2 ^ s.toNat := by
  unfold shrI
  rw [show min s.toNat IntKind.u64.bits = s.toNat by simp [IntKind.bits]; omega]
  exact Int.fdiv_eq_ediv_of_nonneg x (Int.le_of_lt (Int.pow_pos (by decide)))
theorem quo_wrap {x m : Int} (hx : 0 ≤ x) (hx2 : x < 18446744073709551616) (hm : 1 ≤ m) : IntKind.u64.wrap (x / m) = x / m := by
  have h1 := Int.ediv_nonneg hx (show 0 ≤ m by omega)
  have h2 : x / m ≤ x := Int.ediv_le_self m hx
  rw [IntKind.wrap_u64]
  omega
theorem wrap_in (y : Int) : 0 ≤ IntKind.u64.wrap y ∧ IntKind.u64.wrap y < 18446744073709551616 := by rw [IntKind.wrap_u64]; omega
set_option maxHeartbeats 4000000 in
set_option maxRecDepth 100000 in
theorem rmix_c (loss n : Int) (w0 : World) : Cal Tryz.prog 79 [.int .u64 loss, .int .u64 n] w0 (fun v w' => Upd [] w0 w' ∧ v = .int .u64 (mixE loss n)) := by
  refine Cal.mk' (by kernel_rfl) Tryz.func79 rfl rfl fun hS => ?_
  have e1 := fun y => shr_quo (IntKind.u64.wrap y) 30 (by decide) (wrap_in y).1
  have e2 := fun y => shr_quo (IntKind.u64.wrap y) 27 (by decide) (wrap_in y).1
  have e3 := fun y => shr_quo (IntKind.u64.wrap y) 31 (by decide) (wrap_in y).1
  unfold mixE mixS
  rw [e1, e2, e3]
  clear e1 e2 e3
  repeat' (first
    | (show WL _ _ _ _ _ _ _; first
      | refine WL.pure rfl rfl rfl rfl ?_
      | refine WL.nil ?_
      | (refine WL.quoK (b := 1073741824) rfl rfl rfl (wrap_in _).1 (by decide) (quo_wrap (wrap_in _).1 (wrap_in _).2 (by decide)) rfl rfl rfl ?_)
      | (refine WL.quoK (b := 134217728) rfl rfl rfl (wrap_in _).1 (by decide) (quo_wrap (wrap_in _).1 (wrap_in _).2 (by decide)) rfl rfl rfl ?_)
      | (refine WL.quoK (b := 2147483648) rfl rfl rfl (wrap_in _).1 (by decide) (quo_wrap (wrap_in _).1 (wrap_in _).2 (by decide)) rfl rfl rfl ?_))
    | (show WC _ _ _ _ _ _; first
      | refine WC.seq ?_
      | refine WC.region ?_
      | refine WC.ret ?_)
    | refine seqQ_n ?_)
  exact fin1r rfl rfl ⟨hS.upd, rfl⟩
set_option maxHeartbeats 32000000 in
set_option maxRecDepth 100000 in
theorem rfrestart_c {dk : Nat} {D : Dk} {fp : List Nat} (loss : Int) {w0 : World} (hi : InL w0 [rfC dk D fp]) (hk : D.Kp 1099511627776) (hn : D.items.length ≤ 1048576) :
    Cal Tryz.prog 21 [.pointer (some ⟨dk, 0, none⟩), .int .i64 loss] w0 (fun v w' => v = .int .i64 0 ∧ ∃ fp', MutL w0 w' [rfC dk D fp] [rfC dk (D.restart loss) fp']) := by
  refine Cal.mkL hi (by kernel_rfl) Tryz.func21 rfl rfl fun hS => ?_
  obtain ⟨_, ⟨A, cap, l, hR, rfl⟩, hfp, hS⟩ := St.objOpen hS
  replace hS : St w0 _ w0 (rfL dk A cap l D) _ := hS
  have hkl : D.keys.length = D.items.length := by unfold Dk.keys; rw [(List.mergeSort_perm _ _).length_eq, List.length_map]
  repeat' (first
    | (show WL _ _ _ _ _ _ _; first
      | refine WL.pure rfl rfl rfl rfl ?_
      | refine WL.nil ?_)
    | (show WC _ _ _ _ _ _; first
      | refine WC.seq ?_
      | refine WC.region ?_
      | refine WC.block ?_)
    | refine seqQ_n ?_)
  refine WC.loop (σ := Nat × Int × Dk × Option Addr × Nat × List Ri) [0, 1] (fun (k, n, _) => [(5, .int .i64 n), (6, .int .i64 (k : Int))])
    (fun (k, n, E, A, cap, l) w => k ≤ D.items.length ∧ 0 ≤ n ∧ n ≤ k ∧ E.Kp 1099511627776 ∧ (D.keys.drop k).foldl (lose1 loss) (n, E) = D.lose loss ∧ E.keys = D.keys ∧ RepL l E.items ∧ St w0 _ w (rfL dk A cap l E) _)
    (fun (k, _) => D.items.length - k) (0, 0, D, A, cap, l) ⟨Nat.zero_le _, Int.le_refl _, Int.le_refl _, hk, rfl, rfl, hR, hS⟩ ⟨rfl, rfl, trivial⟩ ?_
  clear hS hR
  rintro ⟨k, n, E, A, cap, l⟩ g w ⟨hk', h0, hnk, hKp, hfold, hks, hR, hS⟩
  show WC _ _ _ (lf _ [(5, .int .i64 n), (6, .int .i64 (k : Int))] _ _) _ _
  have hpk := hR.keys
  rw [hks] at hpk
  have hll : l.length = D.items.length := by rw [← hkl, ← hpk, List.length_map]
  by_cases hlt : k < D.items.length
  · have hlt2 : k < D.keys.length := by omega
    have hlt3 : k < l.length := by omega
    obtain ⟨kg, ko, rfl⟩ := hS.own_addr (A := A) (n := l.length) (by repeat (first | exact List.Mem.head _ | apply List.Mem.tail)) (by omega)
    have hstep : D.keys.drop k = D.keys[k] :: D.keys.drop (k + 1) := List.drop_eq_getElem_cons hlt2
    rw [hstep, List.foldl_cons] at hfold
    have hpe : l[k].path = D.keys[k] := by
      have := List.getElem_map Ri.path (l := l) (i := k) (h := by simpa using hlt3)
      rw [← this]
      simp only [hpk]
    have hg := hR.mem (List.getElem_mem hlt3)
    rw [hpe] at hg
    have hli : l[k]? = some ⟨D.keys[k], l[k].it⟩ := by
      rw [List.getElem?_eq_getElem hlt3, ← hpe]
    have hmem : D.keys[k] ∈ E.items.map Prod.fst := List.mem_map.2 ⟨_, mget_mem hg, rfl⟩
    have hEat : E.at D.keys[k] = l[k].it := by unfold Dk.at; rw [hg]; rfl
    clear hstep hpe hpk hg
    generalize D.keys[k] = p at *
    have hat := hKp.at_ p
    have hKp' := lose1_Kp (loss := loss) (s := (n, E)) (p := p) hKp
    have hl1 : lose1 loss (n, E) p = if (E.at p).loose then (n + 1, E.set p { E.at p with data := loseK loss (n + 1) (E.at p), kept := loseK loss (n + 1) (E.at p), loose := false, anew := false }) else (n, E) := rfl
    rw [hl1] at hfold hKp'
    clear hl1
    rw [hEat] at hfold hKp' hat
    generalize l[k].it = it at *
    obtain ⟨dir, dat, kept, loose, anew, stamp⟩ := it
    dsimp only at hfold hKp' hat
    have hpk := mixE_in (IntKind.u64.wrap loss) (n + 1)
    rw [← hll] at hn hlt
    cases loose with
    | false =>
      rw [if_neg (by decide)] at hfold hKp'
      repeat' (first
        | (show WL _ _ _ _ _ _ _; first
          | refine WL.pure rfl rfl rfl rfl ?_
          | refine WL.nil ?_
          | refine WL.load hS rfl rfl (LdOk.box (by repeat (first | exact List.Mem.head _ | apply List.Mem.tail)) rfl) rfl rfl rfl ?_
          | refine WL.add rfl rfl rfl (by omega) rfl rfl rfl ?_
          | (refine WL.load (v := .agg ⟨[str p, .bool dir, str dat, str kept, .bool false, .bool anew, .int .i64 stamp]⟩) hS rfl rfl (LdOk.ownElemE (enc := encRi) (k := k) (fun _ => rfl) (by repeat (first | exact List.Mem.head _ | apply List.Mem.tail)) hli rfl rfl) rfl rfl rfl ?_)
          | (refine WL.store hS rfl rfl rfl (by repeat (first | exact StB.here rfl | apply StB.there)) rfl rfl rfl ?_; intro w hS)
          | (refine WL.alloc hS rfl rfl rfl rfl rfl rfl ?_; intro w b hS)
          | refine WL.index rfl rfl rfl rfl (by first | with_reducible assumption | omega) rfl rfl rfl rfl ?_)
        | (show WC _ _ _ _ _ _; first
          | refine WC.seq ?_
          | refine WC.region ?_
          | refine WC.block ?_
          | refine WC.skip ?_
          | refine WC.exit ?_
          | refine WC.condT rfl (by decide) ?_
          | refine WC.condT rfl (decide_eq_true (by first | with_reducible assumption | omega)) ?_)
        | refine seqQ_n ?_
        | refine seqQ_x ?_
        | refine blkQ_hit rfl ?_)
      exact rndQ_n (k + 1, n, E, some ⟨kg, ko, none⟩, cap, l) ⟨by omega, h0, by show n ≤ ((k + 1 : Nat) : Int); omega, hKp, hfold, hks, hR, hS.droplast2 (by repeat (first | exact Pulls.nil | (apply Pulls.cons; focus (repeat (first | exact Pull.here | apply Pull.there)))))⟩ (by show D.items.length - (k + 1) < D.items.length - k; omega) ⟨rfl, vint (by omega), trivial⟩ ⟨rfl, rfl, trivial⟩
    | true =>
      rw [if_pos rfl] at hfold hKp'
      cases anew with
      | true =>
        have he0 := Int.emod_nonneg (mixE (IntKind.u64.wrap loss) (n + 1)) (show ((dat.length : Int) + 2) ≠ 0 by omega)
        have he1 := Int.emod_lt_of_pos (mixE (IntKind.u64.wrap loss) (n + 1)) (show (0 : Int) < (dat.length : Int) + 2 by omega)
        obtain ⟨mm, hmm⟩ : ∃ mm : Nat, mixE (IntKind.u64.wrap loss) (n + 1) % ((dat.length : Int) + 2) = (mm : Int) := ⟨_, (Int.toNat_of_nonneg he0).symm⟩
        rw [hmm] at he0 he1
        have hK : loseK loss (n + 1) ⟨dir, dat, kept, true, true, stamp⟩ = if 0 < mm then dat.take (mm - 1) else kept := by
          unfold loseK
          rw [if_pos rfl]
          dsimp only
          rw [hmm]
          by_cases hz : 0 < mm
          · rw [if_pos (by omega), if_pos hz]; congr 1; omega
          · rw [if_neg (by omega), if_neg hz]
        rw [hK] at hfold hKp'
        clear hK
        by_cases hz : 0 < mm
        · have hm1 : (mm : Int) - 1 = ((mm - 1 : Nat) : Int) := by omega
          rw [if_pos hz] at hfold hKp'
          repeat' (first
            | (show WL _ _ _ _ _ _ _; first
              | (refine WL.convU rfl rfl rfl (by omega) rfl rfl rfl ?_)
              | (refine WL.sub (a := (mm : Int)) (b := 1) rfl rfl rfl (by omega) rfl rfl rfl ?_; rw [hm1])
              | refine WL.pure rfl rfl rfl rfl ?_
              | refine WL.nil ?_
              | refine WL.load hS rfl rfl (LdOk.box (by repeat (first | exact List.Mem.head _ | apply List.Mem.tail)) rfl) rfl rfl rfl ?_
              | refine WL.add rfl rfl rfl (by omega) rfl rfl rfl ?_
              | (refine WL.highS (j := mm - 1) rfl rfl rfl rfl (by omega) rfl rfl rfl ?_)
              | (refine WL.load (v := .agg ⟨[str p, .bool dir, str dat, str kept, .bool true, .bool true, .int .i64 stamp]⟩) hS rfl rfl (LdOk.ownElemE (enc := encRi) (k := k) (fun _ => rfl) (by repeat (first | exact List.Mem.head _ | apply List.Mem.tail)) hli rfl rfl) rfl rfl rfl ?_)
              | (refine WL.calls hS rfl rfl (rmix_c (IntKind.u64.wrap loss) (n + 1) _) rfl rfl rfl ?_; rintro v w rfl hS)
              | (refine WL.remU rfl rfl rfl (by omega) (by omega) rfl rfl rfl ?_; rw [hmm])
              | (refine WL.callL (D := rfL dk (some ⟨kg, ko, none⟩) cap l E) hS (by repeat (first | exact Pulls.nil | (apply Pulls.cons; focus (repeat (first | exact Pull.here | apply Pull.there))))) rfl rfl (fun hI => rfstamped_c ⟨p, ⟨dir, dat.take (mm - 1), dat.take (mm - 1), false, false, stamp⟩⟩ hI) rfl rfl rfl ?_; rintro v w ⟨rfl, hm⟩ hS; replace hS := hS _ hm; clear hm)
              | (refine WL.callL (D := rfL dk (some ⟨kg, ko, none⟩) cap l { E with stamps := IntKind.i64.wrap (E.stamps + 1) }) hS (by repeat (first | exact Pulls.nil | (apply Pulls.cons; focus (repeat (first | exact Pull.here | apply Pull.there))))) rfl rfl (fun hI => rfput_c ⟨p, ⟨dir, dat.take (mm - 1), dat.take (mm - 1), false, false, IntKind.i64.wrap (E.stamps + 1)⟩⟩ (D := { E with stamps := IntKind.i64.wrap (E.stamps + 1) }) hR hI hn) rfl rfl rfl ?_; rintro v w ⟨rfl, A', cap', l', hR', hm⟩ hS; replace hS := hS _ hm; clear hm)
              | refine WL.conv64 rfl rfl rfl (by omega) rfl rfl rfl ?_
              | (refine WL.store hS rfl rfl rfl (by repeat (first | exact StB.here rfl | apply StB.there)) rfl rfl rfl ?_; intro w hS)
              | (refine WL.alloc hS rfl rfl rfl rfl rfl rfl ?_; intro w b hS)
              | refine WL.index rfl rfl rfl rfl (by first | with_reducible assumption | omega) rfl rfl rfl rfl ?_)
            | (show WC _ _ _ _ _ _; first
              | refine WC.seq ?_
              | refine WC.region ?_
              | refine WC.block ?_
              | refine WC.skip ?_
              | refine WC.condT rfl (by with_reducible rfl) ?_
              | refine WC.condF rfl (by decide) ?_
              | refine WC.condT rfl (decide_eq_true (by first | with_reducible assumption | omega)) ?_)
            | refine seqQ_n ?_
            | refine blkQ_n ?_)
          exact rndQ_n (k + 1, n + 1, E.set p ⟨dir, dat.take (mm - 1), dat.take (mm - 1), false, false, stamp⟩, A', cap', l') ⟨by omega, by show 0 ≤ n + 1; omega, by show n + 1 ≤ ((k + 1 : Nat) : Int); omega, hKp', hfold, (set_keys hmem).trans hks, hR', hS.droplast2 (by repeat (first | exact Pulls.nil | (apply Pulls.cons; focus (repeat (first | exact Pull.here | apply Pull.there)))))⟩ (by show D.items.length - (k + 1) < D.items.length - k; omega) ⟨rfl, vint (by omega), trivial⟩ ⟨rfl, rfl, trivial⟩
        · rw [if_neg hz] at hfold hKp'
          repeat' (first
            | (show WL _ _ _ _ _ _ _; first
              | (refine WL.convU rfl rfl rfl (by omega) rfl rfl rfl ?_)
              | refine WL.pure rfl rfl rfl rfl ?_
              | refine WL.nil ?_
              | refine WL.load hS rfl rfl (LdOk.box (by repeat (first | exact List.Mem.head _ | apply List.Mem.tail)) rfl) rfl rfl rfl ?_
              | refine WL.add rfl rfl rfl (by omega) rfl rfl rfl ?_
              | (refine WL.load (v := .agg ⟨[str p, .bool dir, str dat, str kept, .bool true, .bool true, .int .i64 stamp]⟩) hS rfl rfl (LdOk.ownElemE (enc := encRi) (k := k) (fun _ => rfl) (by repeat (first | exact List.Mem.head _ | apply List.Mem.tail)) hli rfl rfl) rfl rfl rfl ?_)
              | (refine WL.calls hS rfl rfl (rmix_c (IntKind.u64.wrap loss) (n + 1) _) rfl rfl rfl ?_; rintro v w rfl hS)
              | (refine WL.remU rfl rfl rfl (by omega) (by omega) rfl rfl rfl ?_; rw [hmm])
              | (refine WL.callL (D := rfL dk (some ⟨kg, ko, none⟩) cap l E) hS (by repeat (first | exact Pulls.nil | (apply Pulls.cons; focus (repeat (first | exact Pull.here | apply Pull.there))))) rfl rfl (fun hI => rfstamped_c ⟨p, ⟨dir, kept, kept, false, false, stamp⟩⟩ hI) rfl rfl rfl ?_; rintro v w ⟨rfl, hm⟩ hS; replace hS := hS _ hm; clear hm)
              | (refine WL.callL (D := rfL dk (some ⟨kg, ko, none⟩) cap l { E with stamps := IntKind.i64.wrap (E.stamps + 1) }) hS (by repeat (first | exact Pulls.nil | (apply Pulls.cons; focus (repeat (first | exact Pull.here | apply Pull.there))))) rfl rfl (fun hI => rfput_c ⟨p, ⟨dir, kept, kept, false, false, IntKind.i64.wrap (E.stamps + 1)⟩⟩ (D := { E with stamps := IntKind.i64.wrap (E.stamps + 1) }) hR hI hn) rfl rfl rfl ?_; rintro v w ⟨rfl, A', cap', l', hR', hm⟩ hS; replace hS := hS _ hm; clear hm)
              | refine WL.conv64 rfl rfl rfl (by omega) rfl rfl rfl ?_
              | (refine WL.store hS rfl rfl rfl (by repeat (first | exact StB.here rfl | apply StB.there)) rfl rfl rfl ?_; intro w hS)
              | (refine WL.alloc hS rfl rfl rfl rfl rfl rfl ?_; intro w b hS)
              | refine WL.index rfl rfl rfl rfl (by first | with_reducible assumption | omega) rfl rfl rfl rfl ?_)
            | (show WC _ _ _ _ _ _; first
              | refine WC.seq ?_
              | refine WC.region ?_
              | refine WC.block ?_
              | refine WC.skip ?_
              | refine WC.condT rfl (by with_reducible rfl) ?_
              | refine WC.condF rfl (by decide) ?_
              | refine WC.condT rfl (decide_eq_true (by first | with_reducible assumption | omega)) ?_
              | refine WC.condF rfl (decide_eq_false (by first | with_reducible assumption | omega)) ?_)
            | refine seqQ_n ?_
            | refine blkQ_n ?_)
          exact rndQ_n (k + 1, n + 1, E.set p ⟨dir, kept, kept, false, false, stamp⟩, A', cap', l') ⟨by omega, by show 0 ≤ n + 1; omega, by show n + 1 ≤ ((k + 1 : Nat) : Int); omega, hKp', hfold, (set_keys hmem).trans hks, hR', hS.droplast2 (by repeat (first | exact Pulls.nil | (apply Pulls.cons; focus (repeat (first | exact Pull.here | apply Pull.there)))))⟩ (by show D.items.length - (k + 1) < D.items.length - k; omega) ⟨rfl, vint (by omega), trivial⟩ ⟨rfl, rfl, trivial⟩
      | false =>
        have hkd := hat.2.2 rfl rfl
        have he0 := Int.emod_nonneg (mixE (IntKind.u64.wrap loss) (n + 1)) (show ((dat.length : Int) - kept.length + 1) ≠ 0 by omega)
        have he1 := Int.emod_lt_of_pos (mixE (IntKind.u64.wrap loss) (n + 1)) (show (0 : Int) < (dat.length : Int) - kept.length + 1 by omega)
        obtain ⟨mm, hmm⟩ : ∃ mm : Nat, mixE (IntKind.u64.wrap loss) (n + 1) % ((dat.length : Int) - kept.length + 1) = (mm : Int) := ⟨_, (Int.toNat_of_nonneg he0).symm⟩
        rw [hmm] at he0 he1
        have hK : loseK loss (n + 1) ⟨dir, dat, kept, true, false, stamp⟩ = dat.take (kept.length + mm) := by
          unfold loseK
          rw [if_neg (show ¬ false = true by decide)]
          dsimp only
          rw [hmm]
          congr 1
        rw [hK] at hfold hKp'
        clear hK
        repeat' (first
          | (show WL _ _ _ _ _ _ _; first
            | (refine WL.convU rfl rfl rfl (by omega) rfl rfl rfl ?_)
            | refine WL.pure rfl rfl rfl rfl ?_
            | refine WL.nil ?_
            | refine WL.load hS rfl rfl (LdOk.box (by repeat (first | exact List.Mem.head _ | apply List.Mem.tail)) rfl) rfl rfl rfl ?_
            | refine WL.add rfl rfl rfl (by omega) rfl rfl rfl ?_
            | refine WL.sub rfl rfl rfl (by omega) rfl rfl rfl ?_
            | (refine WL.highS (j := kept.length + mm) rfl rfl rfl (by first | rfl | exact vint (show _ = ((kept.length + mm : Nat) : Int) by omega)) (by omega) rfl rfl rfl ?_)
            | (refine WL.load (v := .agg ⟨[str p, .bool dir, str dat, str kept, .bool true, .bool false, .int .i64 stamp]⟩) hS rfl rfl (LdOk.ownElemE (enc := encRi) (k := k) (fun _ => rfl) (by repeat (first | exact List.Mem.head _ | apply List.Mem.tail)) hli rfl rfl) rfl rfl rfl ?_)
            | (refine WL.calls hS rfl rfl (rmix_c (IntKind.u64.wrap loss) (n + 1) _) rfl rfl rfl ?_; rintro v w rfl hS)
            | (refine WL.remU rfl rfl rfl (by omega) (by omega) rfl rfl rfl ?_; rw [hmm])
            | (refine WL.callL (D := rfL dk (some ⟨kg, ko, none⟩) cap l E) hS (by repeat (first | exact Pulls.nil | (apply Pulls.cons; focus (repeat (first | exact Pull.here | apply Pull.there))))) rfl rfl (fun hI => rfstamped_c ⟨p, ⟨dir, dat.take (kept.length + mm), dat.take (kept.length + mm), false, false, stamp⟩⟩ hI) rfl rfl rfl ?_; rintro v w ⟨rfl, hm⟩ hS; replace hS := hS _ hm; clear hm)
            | (refine WL.callL (D := rfL dk (some ⟨kg, ko, none⟩) cap l { E with stamps := IntKind.i64.wrap (E.stamps + 1) }) hS (by repeat (first | exact Pulls.nil | (apply Pulls.cons; focus (repeat (first | exact Pull.here | apply Pull.there))))) rfl rfl (fun hI => rfput_c ⟨p, ⟨dir, dat.take (kept.length + mm), dat.take (kept.length + mm), false, false, IntKind.i64.wrap (E.stamps + 1)⟩⟩ (D := { E with stamps := IntKind.i64.wrap (E.stamps + 1) }) hR hI hn) rfl rfl rfl ?_; rintro v w ⟨rfl, A', cap', l', hR', hm⟩ hS; replace hS := hS _ hm; clear hm)
            | refine WL.conv64 rfl rfl rfl (by omega) rfl rfl rfl ?_
            | (refine WL.store hS rfl rfl rfl (by repeat (first | exact StB.here rfl | apply StB.there)) rfl rfl rfl ?_; intro w hS)
            | (refine WL.alloc hS rfl rfl rfl rfl rfl rfl ?_; intro w b hS)
            | refine WL.index rfl rfl rfl rfl (by first | with_reducible assumption | omega) rfl rfl rfl rfl ?_)
          | (show WC _ _ _ _ _ _; first
            | refine WC.seq ?_
            | refine WC.region ?_
            | refine WC.block ?_
            | refine WC.skip ?_
            | refine WC.condF rfl (by with_reducible rfl) ?_
            | refine WC.condF rfl (by decide) ?_
            | refine WC.condT rfl (decide_eq_true (by first | with_reducible assumption | omega)) ?_)
          | refine seqQ_n ?_
          | refine blkQ_n ?_)
        exact rndQ_n (k + 1, n + 1, E.set p ⟨dir, dat.take (kept.length + mm), dat.take (kept.length + mm), false, false, stamp⟩, A', cap', l') ⟨by omega, by show 0 ≤ n + 1; omega, by show n + 1 ≤ ((k + 1 : Nat) : Int); omega, hKp', hfold, (set_keys hmem).trans hks, hR', hS.droplast2 (by repeat (first | exact Pulls.nil | (apply Pulls.cons; focus (repeat (first | exact Pull.here | apply Pull.there)))))⟩ (by show D.items.length - (k + 1) < D.items.length - k; omega) ⟨rfl, vint (by omega), trivial⟩ ⟨rfl, rfl, trivial⟩
  · have hke : k = D.items.length := by omega
    subst hke
    rw [← hkl, List.drop_length, List.foldl_nil] at hfold
    rw [← hll] at hn
    have hE : { E with down := false, armed := -1 } = D.restart loss := by unfold Dk.restart; rw [← hfold]
    clear hfold hkl hpk
    have hll2 : (D.items.length : Int) = (l.length : Int) := by rw [hll]
    repeat' (first
      | (show WL _ _ _ _ _ _ _; first
        | refine WL.pure rfl rfl rfl rfl ?_
        | refine WL.nil ?_
        | refine WL.load hS rfl rfl (LdOk.box (by repeat (first | exact List.Mem.head _ | apply List.Mem.tail)) rfl) rfl rfl rfl ?_
        | (refine WL.store hS rfl rfl rfl (by repeat (first | exact StB.here rfl | apply StB.there)) rfl rfl rfl ?_; intro w hS))
      | (show WC _ _ _ _ _ _; first
        | refine WC.seq ?_
        | refine WC.region ?_
        | refine WC.exit ?_
        | refine WC.ret ?_
        | refine WC.condF rfl (decide_eq_false (by first | with_reducible assumption | omega)) ?_)
      | refine seqQ_n ?_
      | refine seqQ_x ?_
      | refine blkQ_hit rfl ?_
      | refine rndQ_x ?_)
    have hS := St.objClose (φ := rfφ dk { E with down := false, armed := -1 }) (hS.pulls (D := rfL dk A cap l { E with down := false, armed := -1 }) (by repeat (first | exact Pulls.nil | (apply Pulls.cons; focus (repeat (first | exact Pull.here | apply Pull.there)))))) ⟨A, cap, l, hR, rfl⟩
    rw [hE] at hS
    exact fin1r rfl rfl ⟨rfl, _, hS.mutLp (by repeat (first | exact Pulls.nil | (apply Pulls.cons; focus (repeat (first | exact Pull.here | apply Pull.there)))))⟩
end Go.Proofs.YtccfiohagbneaaaGreatDoor

/- What is proved: what the reference's checksum answers. Conditions: a text of bounded length. -/
set_option linter.unusedSimpArgs false
set_option linter.unusedVariables false
namespace Go.Proofs.YtccfiohagbneaaaGreatDoor
open Go Go.J Go.RowKit

theorem xor_half (a b : Nat) : (a ^^^ b) / 2 = (a / 2) ^^^ (b / 2) := Nat.xor_div_two
theorem xor_odd (a b : Nat) : ((a ^^^ b) % 2 = 1) ↔ ¬ ((a % 2 = 1) ↔ (b % 2 = 1)) := by
  exact Nat.xor_mod_two_eq_one
/-- a bit of the checksum, the byte apart -/
def refS (a x : Nat) : Nat := if (decide (a % 2 = 1)) ≠ (decide (x % 2 = 1)) then (a / 2) ^^^ 3988292384 else a / 2
theorem refS_crc (a x : Nat) : refS a x ^^^ (x / 2) = crcS (a ^^^ x) := by
  unfold refS crcS
  rw [xor_half]
  have h := xor_odd a x
  by_cases h1 : (a ^^^ x) % 2 = 1
  · have h2 := h.1 h1
    rw [if_pos h1, if_pos (fun e => h2 (decide_eq_decide.1 e)), Nat.xor_assoc, Nat.xor_comm 3988292384, ← Nat.xor_assoc]
  · have h2 : (a % 2 = 1) ↔ (x % 2 = 1) := Classical.byContradiction fun hn => h1 (h.2 hn)
    rw [if_neg h1, if_neg (fun e => e (decide_eq_decide.2 h2)), Nat.xor_zero]
theorem refS_lt {a : Nat} (x : Nat) (h : a < 4294967296) : refS a x < 4294967296 := by
  unfold refS
  split
  · exact Nat.xor_lt_two_pow (n := 32) (by omega) (by omega)
  · omega
theorem sub_xor {c : Nat} (h : c < 4294967296) : 4294967295 - c = 4294967295 ^^^ c := by
  refine Nat.eq_of_testBit_eq fun i => ?_
  rw [show 4294967295 - c = 2 ^ 32 - (c + 1) by omega, Nat.testBit_two_pow_sub_succ (by omega), Nat.testBit_xor, show (4294967295 : Nat) = 2 ^ 32 - 1 from rfl, Nat.testBit_two_pow_sub_one]
  by_cases hi : i < 32
  · rw [decide_eq_true hi]; simp
  · rw [decide_eq_false hi, Nat.testBit_lt_two_pow (Nat.lt_of_lt_of_le (show c < 2 ^ 32 by omega) (Nat.pow_le_pow_right (by decide) (by omega)))]; rfl
theorem refS_bool (a x : Nat) : (decide (((a : Nat) : Int) % 2 = 1) = decide (a % 2 = 1)) ∧ (decide (((x : Nat) : Int) % 2 = 1) = decide (x % 2 = 1)) := ⟨decide_eq_decide.2 (by omega), decide_eq_decide.2 (by omega)⟩
theorem crcN_zero : ∀ j, crcN j 0 = 0
  | 0 => rfl
  | j + 1 => crcN_zero j
set_option maxHeartbeats 8000000 in
set_option maxRecDepth 100000 in
theorem rsum_c (s : List UInt8) (w0 : World) (hl : s.length ≤ 1099511627776) : Cal Tryz.prog 135 [str s] w0 (fun v w' => Upd [] w0 w' ∧ v = .int .u32 ((sumE s : Nat) : Int)) := by
  refine Cal.mk' (by kernel_rfl) Tryz.func135 rfl rfl fun hS => ?_
  repeat' (first
    | (show WL _ _ _ _ _ _ _; first
      | refine WL.pure rfl rfl rfl rfl ?_
      | refine WL.nil ?_)
    | (show WC _ _ _ _ _ _; first
      | refine WC.seq ?_
      | refine WC.region ?_
      | refine WC.block ?_)
    | refine seqQ_n ?_)
  refine WC.loop (σ := Nat × Nat) [0] (fun (k, c) => [(3, .int .u32 (c : Int)), (4, .int .i64 (k : Int))]) (fun (k, c) w => k ≤ s.length ∧ c = crcL 4294967295 (s.take k) ∧ St w0 [] w [] _) (fun (k, _) => s.length - k) (0, 4294967295) ⟨Nat.zero_le _, rfl, hS⟩ ⟨rfl, rfl, trivial⟩ ?_
  clear hS
  rintro ⟨k, c⟩ g w ⟨hk, hc, hS⟩
  have hclt : c < 4294967296 := by rw [hc]; exact crcL_lt _ (by omega)
  by_cases hlt : k < s.length
  · have hx : s[k]? = some s[k] := List.getElem?_eq_getElem hlt
    have hnx : crcL 4294967295 (s.take (k + 1)) = crcB c s[k] := by rw [List.take_succ_eq_append_getElem hlt, crcL_snoc, ← hc]
    generalize s[k] = x at *
    clear hc
    have hxt := x.toNat_lt
    repeat' (first
      | (show WL _ _ _ _ _ _ _; first
        | refine WL.pure rfl rfl rfl rfl ?_
        | refine WL.nil ?_
        | refine WL.conv64 rfl rfl rfl (by omega) rfl rfl rfl ?_
        | refine WL.idxS rfl rfl rfl rfl (by with_reducible assumption) rfl rfl rfl ?_)
      | (show WC _ _ _ _ _ _; first
        | refine WC.seq ?_
        | refine WC.region ?_
        | refine WC.block ?_
        | refine WC.skip ?_
        | refine WC.condT rfl (decide_eq_true (by first | with_reducible assumption | omega)) ?_)
      | refine seqQ_n ?_)
    refine WC.loop (σ := Nat × Nat × Nat) [0, 4] (fun (j, a, y) => [(3, .int .u32 (a : Int)), (5, .int .i64 (y : Int)), (6, .int .i64 (j : Int))]) (fun (j, a, y) w => (j ≤ 8 ∧ crcN (8 - j) (a ^^^ y) = crcB c x ∧ a < 4294967296 ∧ y < 2 ^ (8 - j)) ∧ St w0 [] w [] _) (fun (j, _) => 8 - j) (0, c, x.toNat) ⟨⟨by omega, rfl, hclt, hxt⟩, hS⟩ ⟨rfl, rfl, rfl, trivial⟩ ?_
    clear hS
    rintro ⟨j, a, y⟩ g w ⟨⟨hj, he, halt, hyl⟩, hS⟩
    by_cases h8 : j < 8
    · have hst := refS_crc a y
      have hlt2 := refS_lt y halt
      have h82 : 8 - j = (8 - (j + 1)) + 1 := by omega
      have hy256 : y < 256 := Nat.lt_of_lt_of_le hyl (Nat.pow_le_pow_right (n := 2) (by decide) (show 8 - j ≤ 8 by omega))
      have hyn : y / 2 < 2 ^ (8 - (j + 1)) := by rw [h82, Nat.pow_succ] at hyl; omega
      have hen : crcN (8 - (j + 1)) (refS a y ^^^ (y / 2)) = crcB c x := by rw [hst, ← he, h82]; rfl
      have hxa := u32_xor_nat (a / 2) 3988292384 (by omega) (by omega)
      have hwr : IntKind.u32.wrap ((a : Int) % 2) = (a : Int) % 2 := by rw [IntKind.wrap_u32']; omega
      have hwq : IntKind.u32.wrap ((a : Int) / 2) = (a : Int) / 2 := by rw [IntKind.wrap_u32']; omega
      have hq : (a : Int) / 2 = ((a / 2 : Nat) : Int) := by omega
      clear he hst hyl h82
      have hqy : (y : Int) / 2 = ((y / 2 : Nat) : Int) := by omega
      rcases Nat.mod_two_eq_zero_or_one a with pa | pa <;> rcases Nat.mod_two_eq_zero_or_one y with py | py
      · have hA : decide (((a : Nat) : Int) % 2 = 1) = false := decide_eq_false (by omega)
        have hY : decide (((y : Nat) : Int) % 2 = 1) = false := decide_eq_false (by omega)
        have hR : refS a y = a / 2 := by unfold refS; rw [pa, py]; rfl
        rw [hR] at hen hlt2
        clear hR
        repeat' (first
          | (show WL _ _ _ _ _ _ _; first
            | refine WL.pure rfl rfl rfl rfl ?_
            | refine WL.nil ?_
            | refine WL.add rfl rfl rfl (by omega) rfl rfl rfl ?_
            | (refine WL.remK rfl rfl rfl (by omega) (by omega) hwr rfl rfl rfl ?_)
            | (refine WL.quoK rfl rfl rfl (by omega) (by omega) hwq rfl rfl rfl ?_; rw [hq])
            | (refine WL.rem rfl rfl rfl (by omega) (by omega) rfl rfl rfl ?_)
            | (refine WL.quo rfl rfl rfl (by omega) (by omega) (by omega) rfl rfl rfl ?_; rw [hqy]))
          | (show WC _ _ _ _ _ _; first
            | refine WC.seq ?_
            | refine WC.region ?_
            | refine WC.block ?_
            | refine WC.skip ?_
            | refine WC.condT rfl (decide_eq_true (by first | with_reducible assumption | omega)) ?_
            | refine WC.condF rfl (by first | (simp; done) | (simp; omega)) ?_)
          | refine seqQ_n ?_
          | refine blkQ_n ?_)
        exact rndQ_n (j + 1, a / 2, y / 2) ⟨⟨by omega, hen, hlt2, hyn⟩, hS⟩ (by show 8 - (j + 1) < 8 - j; omega) ⟨rfl, rfl, vint (by omega), trivial⟩ ⟨rfl, rfl, trivial⟩
      · have hA : decide (((a : Nat) : Int) % 2 = 1) = false := decide_eq_false (by omega)
        have hY : decide (((y : Nat) : Int) % 2 = 1) = true := decide_eq_true (by omega)
        have hR : refS a y = (a / 2) ^^^ 3988292384 := by unfold refS; rw [pa, py]; rfl
        rw [hR] at hen hlt2
        clear hR
        repeat' (first
          | (show WL _ _ _ _ _ _ _; first
            | refine WL.pure rfl rfl rfl rfl ?_
            | refine WL.nil ?_
            | refine WL.add rfl rfl rfl (by omega) rfl rfl rfl ?_
            | (refine WL.remK rfl rfl rfl (by omega) (by omega) hwr rfl rfl rfl ?_)
            | (refine WL.quoK rfl rfl rfl (by omega) (by omega) hwq rfl rfl rfl ?_; rw [hq])
            | (refine WL.rem rfl rfl rfl (by omega) (by omega) rfl rfl rfl ?_)
            | (refine WL.quo rfl rfl rfl (by omega) (by omega) (by omega) rfl rfl rfl ?_; rw [hqy]))
          | (show WC _ _ _ _ _ _; first
            | refine WC.seq ?_
            | refine WC.region ?_
            | refine WC.block ?_
            | refine WC.skip ?_
            | refine WC.condT rfl (decide_eq_true (by first | with_reducible assumption | omega)) ?_
            | refine WC.condT rfl (by first | (simp; done) | (simp; omega)) ?_)
          | refine seqQ_n ?_
          | refine blkQ_n ?_)
        exact rndQ_n (j + 1, (a / 2) ^^^ 3988292384, y / 2) ⟨⟨by omega, hen, hlt2, hyn⟩, hS⟩ (by show 8 - (j + 1) < 8 - j; omega) ⟨congrArg (Value.int .u32) hxa, rfl, vint (by omega), trivial⟩ ⟨rfl, rfl, trivial⟩
      · have hA : decide (((a : Nat) : Int) % 2 = 1) = true := decide_eq_true (by omega)
        have hY : decide (((y : Nat) : Int) % 2 = 1) = false := decide_eq_false (by omega)
        have hR : refS a y = (a / 2) ^^^ 3988292384 := by unfold refS; rw [pa, py]; rfl
        rw [hR] at hen hlt2
        clear hR
        repeat' (first
          | (show WL _ _ _ _ _ _ _; first
            | refine WL.pure rfl rfl rfl rfl ?_
            | refine WL.nil ?_
            | refine WL.add rfl rfl rfl (by omega) rfl rfl rfl ?_
            | (refine WL.remK rfl rfl rfl (by omega) (by omega) hwr rfl rfl rfl ?_)
            | (refine WL.quoK rfl rfl rfl (by omega) (by omega) hwq rfl rfl rfl ?_; rw [hq])
            | (refine WL.rem rfl rfl rfl (by omega) (by omega) rfl rfl rfl ?_)
            | (refine WL.quo rfl rfl rfl (by omega) (by omega) (by omega) rfl rfl rfl ?_; rw [hqy]))
          | (show WC _ _ _ _ _ _; first
            | refine WC.seq ?_
            | refine WC.region ?_
            | refine WC.block ?_
            | refine WC.skip ?_
            | refine WC.condT rfl (decide_eq_true (by first | with_reducible assumption | omega)) ?_
            | refine WC.condT rfl (by first | (simp; done) | (simp; omega)) ?_)
          | refine seqQ_n ?_
          | refine blkQ_n ?_)
        exact rndQ_n (j + 1, (a / 2) ^^^ 3988292384, y / 2) ⟨⟨by omega, hen, hlt2, hyn⟩, hS⟩ (by show 8 - (j + 1) < 8 - j; omega) ⟨congrArg (Value.int .u32) hxa, rfl, vint (by omega), trivial⟩ ⟨rfl, rfl, trivial⟩
      · have hA : decide (((a : Nat) : Int) % 2 = 1) = true := decide_eq_true (by omega)
        have hY : decide (((y : Nat) : Int) % 2 = 1) = true := decide_eq_true (by omega)
        have hR : refS a y = a / 2 := by unfold refS; rw [pa, py]; rfl
        rw [hR] at hen hlt2
        clear hR
        repeat' (first
          | (show WL _ _ _ _ _ _ _; first
            | refine WL.pure rfl rfl rfl rfl ?_
            | refine WL.nil ?_
            | refine WL.add rfl rfl rfl (by omega) rfl rfl rfl ?_
            | (refine WL.remK rfl rfl rfl (by omega) (by omega) hwr rfl rfl rfl ?_)
            | (refine WL.quoK rfl rfl rfl (by omega) (by omega) hwq rfl rfl rfl ?_; rw [hq])
            | (refine WL.rem rfl rfl rfl (by omega) (by omega) rfl rfl rfl ?_)
            | (refine WL.quo rfl rfl rfl (by omega) (by omega) (by omega) rfl rfl rfl ?_; rw [hqy]))
          | (show WC _ _ _ _ _ _; first
            | refine WC.seq ?_
            | refine WC.region ?_
            | refine WC.block ?_
            | refine WC.skip ?_
            | refine WC.condT rfl (decide_eq_true (by first | with_reducible assumption | omega)) ?_
            | refine WC.condF rfl (by first | (simp; done) | (simp; omega)) ?_)
          | refine seqQ_n ?_
          | refine blkQ_n ?_)
        exact rndQ_n (j + 1, a / 2, y / 2) ⟨⟨by omega, hen, hlt2, hyn⟩, hS⟩ (by show 8 - (j + 1) < 8 - j; omega) ⟨rfl, rfl, vint (by omega), trivial⟩ ⟨rfl, rfl, trivial⟩
    · obtain rfl : j = 8 := by omega
      have hy0 : y = 0 := by have : y < 2 ^ 0 := hyl; omega
      subst hy0
      have he : a ^^^ 0 = crcB c x := he
      rw [Nat.xor_zero] at he
      subst he
      repeat' (first
        | (show WL _ _ _ _ _ _ _; first
          | refine WL.pure rfl rfl rfl rfl ?_
          | refine WL.nil ?_
          | refine WL.add rfl rfl rfl (by omega) rfl rfl rfl ?_)
        | (show WC _ _ _ _ _ _; first
          | refine WC.seq ?_
          | refine WC.region ?_
          | refine WC.exit ?_
          | refine WC.condF rfl (by decide) ?_)
        | refine seqQ_n ?_
        | refine blkQ_n ?_
        | refine seqQ_x ?_
        | refine blkQ_hit rfl ?_
        | refine rndQ_x ?_)
      exact rndQ_n (k + 1, crcB c x) ⟨by omega, hnx.symm, hS⟩ (by show s.length - (k + 1) < s.length - k; omega) ⟨rfl, vint (by omega), trivial⟩ ⟨rfl, trivial⟩
  · have hks : s.take k = s := List.take_of_length_le (by omega)
    rw [hks] at hc
    subst hc
    have hcm := sub_xor hclt
    have hse : sumE s = 4294967295 - crcL 4294967295 s := by rw [hcm]; rfl
    have hwr : IntKind.u32.wrap (4294967295 - ((crcL 4294967295 s : Nat) : Int)) = ((sumE s : Nat) : Int) := by rw [IntKind.wrap_u32', hse]; omega
    clear hse hcm
    repeat' (first
      | (show WL _ _ _ _ _ _ _; first
        | refine WL.pure rfl rfl rfl rfl ?_
        | refine WL.nil ?_)
      | (show WC _ _ _ _ _ _; first
        | refine WC.seq ?_
        | refine WC.region ?_
        | refine WC.exit ?_
        | refine WC.ret ?_
        | refine WC.condF rfl (decide_eq_false (by first | with_reducible assumption | omega)) ?_)
      | refine seqQ_n ?_
      | refine seqQ_x ?_
      | refine blkQ_hit rfl ?_
      | refine rndQ_x ?_)
    exact fin1r rfl rfl ⟨hS.upd, congrArg (Value.int .u32) hwr⟩
end Go.Proofs.YtccfiohagbneaaaGreatDoor

/- What is proved: plain facts on changes as bytes. Conditions: none. -/
set_option linter.unusedSimpArgs false
set_option linter.unusedVariables false
namespace Go.Proofs.YtccfiohagbneaaaGreatDoor
open Go Go.J Go.RowKit

/-- a change -/
structure Chg where
  key : List UInt8
  val : List UInt8
  gone : Bool
def Chg0 : Chg := ⟨[], [], false⟩
def cellsChg (o : Chg) : List Value := [str o.key, str o.val, .bool o.gone]
@[reducible] def encChg (o : Chg) : Value := .agg ⟨[str o.key, str o.val, .bool o.gone]⟩
def chgs (l : List Chg) : List Value := l.flatMap cellsChg
theorem chgs_len (l : List Chg) : (chgs l).length = l.length * 3 := flat_len (enc := cellsChg) (fun _ => rfl) l
theorem chgs_snoc (l : List Chg) (o : Chg) : chgs l ++ cellsChg o = chgs (l ++ [o]) := by simp [chgs]
theorem chgs_one (l : List Chg) : one (chgs l) = true := by
  unfold one
  rw [List.all_eq_true]
  intro v hv
  obtain ⟨o, _, h⟩ := List.mem_flatMap.1 hv
  simp only [cellsChg, List.mem_cons, List.not_mem_nil, or_false] at h
  rcases h with rfl | rfl | rfl <;> rfl
def recO (o : Chg) : List UInt8 := if o.gone then 0 :: textE o.key else 1 :: (textE o.key ++ textE o.val)
def recordE (l : List Chg) : List UInt8 := putN l.length ++ l.flatMap recO
/-- the change at the head of the bytes, how many bytes it has, the error -/
def opE (t : List UInt8) : Chg × Nat × Int :=
  if (uintE t).2.2 ≠ 0 then (Chg0, 0, (uintE t).2.2)
  else if 1 < (uintE t).1 then (Chg0, 0, 3)
  else if (rtextE (t.drop (uintE t).2.1)).2.2 ≠ 0 then (Chg0, 0, (rtextE (t.drop (uintE t).2.1)).2.2)
  else if (uintE t).1 = 0 then (⟨(rtextE (t.drop (uintE t).2.1)).1, [], true⟩, (uintE t).2.1 + (rtextE (t.drop (uintE t).2.1)).2.1, 0)
  else if (rtextE (t.drop ((uintE t).2.1 + (rtextE (t.drop (uintE t).2.1)).2.1))).2.2 ≠ 0 then (Chg0, 0, (rtextE (t.drop ((uintE t).2.1 + (rtextE (t.drop (uintE t).2.1)).2.1))).2.2)
  else (⟨(rtextE (t.drop (uintE t).2.1)).1, (rtextE (t.drop ((uintE t).2.1 + (rtextE (t.drop (uintE t).2.1)).2.1))).1, false⟩, (uintE t).2.1 + (rtextE (t.drop (uintE t).2.1)).2.1 + (rtextE (t.drop ((uintE t).2.1 + (rtextE (t.drop (uintE t).2.1)).2.1))).2.1, 0)
/-- n changes -/
def opsF : Nat → List UInt8 → List Chg × Nat × Int
  | 0, _ => ([], 0, 0)
  | n + 1, t => if (opE t).2.2 ≠ 0 then ([], 0, (opE t).2.2)
    else if (opsF n (t.drop (opE t).2.1)).2.2 ≠ 0 then ([], 0, (opsF n (t.drop (opE t).2.1)).2.2)
    else ((opE t).1 :: (opsF n (t.drop (opE t).2.1)).1, (opE t).2.1 + (opsF n (t.drop (opE t).2.1)).2.1, 0)
/-- all changes of the bytes, the error -/
def opsE (s : List UInt8) : List Chg × Int :=
  if (uintE s).2.2 ≠ 0 then ([], (uintE s).2.2)
  else if (opsF (uintE s).1 (s.drop (uintE s).2.1)).2.2 ≠ 0 then ([], (opsF (uintE s).1 (s.drop (uintE s).2.1)).2.2)
  else if (uintE s).2.1 + (opsF (uintE s).1 (s.drop (uintE s).2.1)).2.1 < s.length then ([], 5)
  else ((opsF (uintE s).1 (s.drop (uintE s).2.1)).1, 0)
theorem uintE_le (t : List UInt8) : (uintE t).2.1 ≤ t.length := by
  by_cases h : (uintE t).2.2 = 0
  · exact (uintE_ok t h).2
  · unfold uintE at h ⊢
    split
    · rename_i h1
      rw [if_pos h1] at h
      split
      · rename_i h2
        rw [if_pos h2] at h
        exact absurd h1 h
      · exact Nat.zero_le _
    · exact Nat.zero_le _
theorem varE_pos : ∀ (t : List UInt8) (i x : Nat), (varE t i x).2.2 = 0 → 1 ≤ (varE t i x).2.1
  | [], i, x, h => by simp [varE] at h
  | c :: t, i, x, h => by
    unfold varE at h ⊢
    repeat' split
    all_goals simp_all
    rename_i h1 h2
    exact varE_pos t _ _ h
theorem uintE_pos (t : List UInt8) (h : (uintE t).2.2 = 0) : 1 ≤ (uintE t).2.1 := by
  unfold uintE at h ⊢
  split
  · rename_i h1
    rw [if_pos h1] at h
    split
    · exact varE_pos t 0 0 h1
    · rename_i h2
      rw [if_neg h2] at h
      cases h
  · rename_i h1
    rw [if_neg h1] at h
    exact absurd h h1
theorem rtextE_le' (t : List UInt8) : (rtextE t).2.1 ≤ t.length := by
  by_cases h : (rtextE t).2.2 = 0
  · exact (rtextE_le t h).1
  · unfold rtextE at h ⊢
    split
    · split
      · assumption
      · exact Nat.zero_le _
    · exact Nat.zero_le _
theorem opE_le (t : List UInt8) : (opE t).2.1 ≤ t.length := by
  have h1 := uintE_le t
  have h2 := rtextE_le' (t.drop (uintE t).2.1)
  have h3 := rtextE_le' (t.drop ((uintE t).2.1 + (rtextE (t.drop (uintE t).2.1)).2.1))
  rw [List.length_drop] at h2 h3
  unfold opE
  repeat' split
  all_goals first
    | exact Nat.zero_le _
    | (dsimp only; omega)
theorem opE_e {t : List UInt8} {n u : Nat} {e : Int} (h : uintE t = (n, u, e)) (he : e ≠ 0) : opE t = (Chg0, 0, e) := by unfold opE; rw [h, if_pos he]
theorem opE_big {t : List UInt8} {n u : Nat} (h : uintE t = (n, u, 0)) (hn : 1 < n) : opE t = (Chg0, 0, 3) := by unfold opE; rw [h, if_neg (fun h => h rfl), if_pos hn]
theorem opE_k {t x : List UInt8} {n u v : Nat} {e : Int} (h : uintE t = (n, u, 0)) (hn : ¬ 1 < n) (h2 : rtextE (t.drop u) = (x, v, e)) (he : e ≠ 0) : opE t = (Chg0, 0, e) := by
  unfold opE; rw [h, if_neg (fun h => h rfl), if_neg hn]; dsimp only; rw [h2, if_pos he]
theorem opE_gone {t x : List UInt8} {u v : Nat} (h : uintE t = (0, u, 0)) (h2 : rtextE (t.drop u) = (x, v, 0)) : opE t = (⟨x, [], true⟩, u + v, 0) := by
  unfold opE; rw [h, if_neg (fun h => h rfl), if_neg (show ¬ 1 < 0 by decide)]; dsimp only; rw [h2, if_neg (fun h => h rfl), if_pos rfl]
theorem opE_v {t x y : List UInt8} {u v z : Nat} {e : Int} (h : uintE t = (1, u, 0)) (h2 : rtextE (t.drop u) = (x, v, 0)) (h3 : rtextE (t.drop (u + v)) = (y, z, e)) (he : e ≠ 0) : opE t = (Chg0, 0, e) := by
  unfold opE; rw [h, if_neg (fun h => h rfl), if_neg (show ¬ 1 < 1 by decide)]; dsimp only; rw [h2, if_neg (fun h => h rfl), if_neg (show ¬ 1 = 0 by decide)]; dsimp only; rw [h3, if_pos he]
theorem opE_put {t x y : List UInt8} {u v z : Nat} (h : uintE t = (1, u, 0)) (h2 : rtextE (t.drop u) = (x, v, 0)) (h3 : rtextE (t.drop (u + v)) = (y, z, 0)) : opE t = (⟨x, y, false⟩, u + v + z, 0) := by
  unfold opE; rw [h, if_neg (fun h => h rfl), if_neg (show ¬ 1 < 1 by decide)]; dsimp only; rw [h2, if_neg (fun h => h rfl), if_neg (show ¬ 1 = 0 by decide)]; dsimp only; rw [h3, if_neg (fun h => h rfl)]
/-- what is answered of changes that were read, and of those to come -/
def opsFin (s : List UInt8) (l : List Chg) (p : Nat) (r : List Chg × Nat × Int) : List Chg × Int := if r.2.2 ≠ 0 then ([], r.2.2) else if p + r.2.1 < s.length then ([], 5) else (l ++ r.1, 0)
theorem opsF_s (n : Nat) (t : List UInt8) : opsF (n + 1) t = if (opE t).2.2 ≠ 0 then ([], 0, (opE t).2.2)
    else if (opsF n (t.drop (opE t).2.1)).2.2 ≠ 0 then ([], 0, (opsF n (t.drop (opE t).2.1)).2.2)
    else ((opE t).1 :: (opsF n (t.drop (opE t).2.1)).1, (opE t).2.1 + (opsF n (t.drop (opE t).2.1)).2.1, 0) := rfl
theorem opsFin_no {s t : List UInt8} {l : List Chg} {p m u : Nat} {o : Chg} {e : Int} (h : opE t = (o, u, e)) (he : e ≠ 0) : opsFin s l p (opsF (m + 1) t) = ([], e) := by
  rw [opsF_s, h, if_pos he]
  unfold opsFin
  rw [if_pos he]
theorem opsFin_ok {s t : List UInt8} {l : List Chg} {p m u : Nat} {o : Chg} (h : opE t = (o, u, 0)) : opsFin s l p (opsF (m + 1) t) = opsFin s (l ++ [o]) (p + u) (opsF m (t.drop u)) := by
  rw [opsF_s, h, if_neg (fun h => h rfl)]
  dsimp only
  generalize opsF m (t.drop u) = r
  obtain ⟨a, b, e⟩ := r
  dsimp only
  unfold opsFin
  by_cases he : e ≠ 0
  · rw [if_pos he, if_pos he, if_pos he]
  · rw [if_neg he, if_neg he]
    dsimp only
    rw [if_neg (fun h => h rfl), Nat.add_assoc]
    simp
theorem opsE_of {s : List UInt8} {n u : Nat} (h : uintE s = (n, u, 0)) : opsE s = opsFin s [] u (opsF n (s.drop u)) := by
  unfold opsE opsFin
  rw [h, if_neg (fun h => h rfl)]
  dsimp only
  rw [List.nil_append]
theorem opsE_e {s : List UInt8} {n u : Nat} {e : Int} (h : uintE s = (n, u, e)) (he : e ≠ 0) : opsE s = ([], e) := by
  unfold opsE
  rw [h, if_pos he]
theorem textE_len (s : List UInt8) : (textE s).length = (putN s.length).length + s.length := by unfold textE; simp
theorem opE_pos (t : List UInt8) (h : (opE t).2.2 = 0) : 1 ≤ (opE t).2.1 := by
  have h1 := uintE_pos t
  unfold opE at h ⊢
  by_cases hu : (uintE t).2.2 = 0
  · have h1 := h1 hu
    repeat' split
    all_goals first
      | (dsimp only; omega)
      | (simp_all; done)
      | (exfalso; simp_all; omega)
  · rw [if_pos hu] at h
    exact absurd h hu
theorem opsF_len : ∀ (n : Nat) (t : List UInt8), (opsF n t).1.length ≤ t.length
  | 0, t => Nat.zero_le _
  | n + 1, t => by
    have h1 := opE_le t
    have h2 := opsF_len n (t.drop (opE t).2.1)
    rw [List.length_drop] at h2
    rw [opsF_s]
    split
    · exact Nat.zero_le _
    · rename_i h
      have h3 := opE_pos t (Classical.not_not.1 h)
      split
      · exact Nat.zero_le _
      · simp only [List.length_cons]; omega
theorem opsE_len (s : List UInt8) : (opsE s).1.length ≤ s.length := by
  have h := opsF_len (uintE s).1 (s.drop (uintE s).2.1)
  rw [List.length_drop] at h
  unfold opsE
  repeat' split
  all_goals first
    | exact Nat.zero_le _
    | (dsimp only; omega)
/-- rows behind changes -/
def applyE (rows : List (List UInt8 × List UInt8)) (l : List Chg) : List (List UInt8 × List UInt8) := l.foldl (fun m o => if o.gone then mdel m o.key else mset m o.key o.val) rows
end Go.Proofs.YtccfiohagbneaaaGreatDoor

/- What is proved: what Record and Ops of the package table answer. Conditions: texts of bounded length. -/
set_option linter.unusedSimpArgs false
set_option linter.unusedVariables false
namespace Go.Proofs.YtccfiohagbneaaaGreatDoor
open Go Go.J Go.RowKit

set_option maxHeartbeats 4000000 in
set_option maxRecDepth 100000 in
theorem wuint_c (n : Nat) (w0 : World) (hn : n < 9223372036854775808) : Cal Tryz.prog 144 [.int .i64 (n : Int)] w0 (fun v w' => Upd [] w0 w' ∧ v = .tuple #[str (putN n), .int .i64 0]) := by
  refine Cal.mk' (by kernel_rfl) Tryz.func144 rfl rfl fun hS => ?_
  have hw : IntKind.u64.wrap (n : Int) = (n : Int) := by
    simp only [IntKind.wrap, IntKind.bits, IntKind.signed, Bool.false_and, Bool.false_eq_true, if_false]; omega
  repeat' (first
    | (show WL _ _ _ _ _ _ _; first
      | refine WL.pure rfl rfl rfl rfl ?_
      | refine WL.nil ?_
      | (refine WL.calls hS rfl (congrArg (fun z => [Value.int .u64 z]) hw) (put_c n _ (by omega)) rfl rfl rfl ?_; rintro v w rfl hS))
    | (show WC _ _ _ _ _ _; first
      | refine WC.seq ?_
      | refine WC.region ?_
      | refine WC.skip ?_
      | refine WC.ret ?_
      | refine WC.condF rfl (decide_eq_false (by first | with_reducible assumption | omega)) ?_)
    | refine seqQ_n ?_)
  exact fin2r rfl rfl rfl ⟨hS.upd, rfl⟩
set_option maxHeartbeats 4000000 in
set_option maxRecDepth 100000 in
theorem bwrites_c (q : Nat) (s r : List UInt8) (fp : List Nat) (w0 : World) (hc : (sbC q s fp).holds w0) (hi : inB (sbC q s fp) w0) (hl : s.length + r.length ≤ 1099511627776) : Cal Tryz.prog 145 [.pointer (some ⟨q, 0, none⟩), str r] w0
    (fun v w' => v = .tuple #[.int .i64 (r.length : Int), .nilIface] ∧ ∃ fp', Mut w0 w' (sbC q s fp) (sbC q (s ++ r) fp')) := by
  refine Cal.mkM hc hi (by kernel_rfl) Tryz.func145 rfl rfl fun hS => ?_
  repeat' (first
    | (show WL _ _ _ _ _ _ _; first
      | refine WL.pure rfl rfl rfl rfl ?_
      | refine WL.nil ?_
      | refine WL.load hS rfl rfl (LdOk.box (by repeat (first | exact List.Mem.head _ | apply List.Mem.tail)) rfl) rfl rfl rfl ?_
      | (refine WL.callG rfl rfl (bcheck_c q s fp _ (hS.holds _ (List.Mem.head _)) (hS.inB_of (List.Mem.head _))) rfl rfl rfl ?_; rintro v w ⟨rfl, fp', hmut⟩; have hS := hS.mut hmut .here; obtain ⟨D, ⟨A, n, cap, rfl, hA⟩, hfp, hS⟩ := hS.objOpen; replace hS : St w0 _ w [.box q 199 [.pointer (some ⟨q, 0, none⟩), .slice A n cap], .own (.slice A n cap) 5 1 n (byteC s)] _ := hS; have hlen := (hS.own_len (List.Mem.tail _ (List.Mem.head _))).1; rw [byteC_len, Nat.mul_one] at hlen)
      | (refine WL.appStr hS rfl rfl rfl rfl rfl (fun A' cap' => by repeat (first | exact Repl.here | apply Repl.there)) (by omega) rfl rfl rfl ?_; intro A2 cap2 w hA2 hS; have hA2 := hA2 hA)
      | (refine WL.store hS rfl rfl rfl (by repeat (first | exact StB.here rfl | apply StB.there)) rfl rfl rfl ?_; intro w hS))
    | (show WC _ _ _ _ _ _; first
      | refine WC.seq ?_
      | refine WC.region ?_
      | refine WC.ret ?_)
    | refine seqQ_n ?_)
  exact fin2r rfl rfl rfl ⟨rfl, _, (St.objClose (H := []) (φ := sbφ q (s ++ r)) (D := sbD q (some ⟨q, 0, none⟩) A2 (n + r.length) cap2 (s ++ r)) (by rw [sbD, byteC_app]; exact hS) (.inr ⟨_, _, _, rfl, hA2⟩)).mutOf (List.Mem.head _)⟩
set_option maxHeartbeats 4000000 in
set_option maxRecDepth 100000 in
theorem rdone_c (r : Nat) (s : List UInt8) (p : Nat) (w0 : World) (h : RdAt r s p w0) : Cal Tryz.prog 150 [.pointer (some ⟨r, 0, none⟩)] w0 (fun v w' => Upd [] w0 w' ∧ v = .int .i64 (if p < s.length then 5 else 0)) := by
  refine Cal.mk' (by kernel_rfl) Tryz.func150 rfl rfl fun hS => ?_
  unfold RdAt at h
  by_cases hp : p < s.length
  case' pos => rw [if_pos hp]
  case' neg => rw [if_neg hp]
  all_goals
    repeat' (first
      | (show WL _ _ _ _ _ _ _; first
        | refine WL.pure rfl rfl rfl rfl ?_
        | refine WL.nil ?_)
      | (show WC _ _ _ _ _ _; first
        | refine WC.seq ?_
        | refine WC.region ?_
        | refine WC.block ?_
        | refine WC.skip ?_
        | refine WC.ret ?_
        | (show WC _ _ (Code.region _ (List.toArray [_, _, _, _, _, _, _, _, _, _, _]) true) _ _ _; refine WC.drawS hS [0, 1, 2, 3, 4, 5, 6, 7, 8, 9, 10] [0, 1, 2, 3, 4, 5, 6, 7, 8, 9, 10] (by kernel_rfl) (by kernel_rfl) ?_; clear hS; intro w hS hM)
        | refine WC.condF rfl (by with_reducible rfl) ?_
        | refine WC.condT rfl (decide_eq_true (by first | with_reducible assumption | omega)) ?_
        | refine WC.condF rfl (decide_eq_false (by first | with_reducible assumption | omega)) ?_)
      | (show WD _ _ _ _ _ _ _ _ _; first
        | refine WD.pure rfl rfl rfl rfl rfl ?_
        | refine WD.nil ?_
        | refine WD.load rfl rfl (LdOk.old h (by repeat (first | exact List.Mem.head _ | apply List.Mem.tail)) rfl) rfl rfl rfl rfl ?_)
      | refine seqQ_n ?_
      | refine blkQ_n ?_
      | refine seqQ_r ?_
      | refine blkQ_r ?_)
    exact fin1r rfl rfl ⟨hS.upd, rfl⟩
def cChg : Cod Chg := .flat cellsChg 3 fun _ => rfl
set_option maxHeartbeats 8000000 in
set_option maxRecDepth 100000 in
theorem record_c (l : List Chg) {A : Option Addr} {cap : Nat} {w0 : World} (h : SlAt cChg (Old w0) w0 A l) (hb : (recordE l).length ≤ 1099511627776) (hl : l.length ≤ 1099511627776) :
    Cal Tryz.prog 89 [.slice A l.length cap] w0 (fun v w' => Upd [] w0 w' ∧ v = str (recordE l)) := by
  refine Cal.mk' (by kernel_rfl) Tryz.func89 rfl rfl fun hS => ?_
  have hpl := putN_len10 (n := l.length) (by omega)
  have h0 : ([] : List UInt8).length = 0 := rfl
  repeat' (first
    | (show WL _ _ _ _ _ _ _; first
      | refine WL.pure rfl rfl rfl rfl ?_
      | refine WL.nil ?_
      | (refine WL.calls hS rfl rfl (wuint_c l.length _ (by omega)) rfl rfl rfl ?_; rintro v w rfl hS)
      | (refine WL.alloc (t := 199) hS rfl rfl rfl rfl rfl rfl ?_; intro w q hS; have hS := (hS.nilRow 5 1).perm (.swap _ _ _); have hS := St.objClose (H := []) (φ := sbφ q []) (D := sbD q none none 0 0 []) hS (.inl ⟨rfl, rfl⟩))
      | (refine WL.callG rfl rfl (bwrites_c q [] (putN l.length) _ _ (hS.holds _ (List.Mem.head _)) (hS.inB_of (List.Mem.head _)) (by omega)) rfl rfl rfl ?_; rintro v w ⟨rfl, fp', hmut⟩; have hS := hS.mut hmut .here; clear hmut))
    | (show WC _ _ _ _ _ _; first
      | refine WC.seq ?_
      | refine WC.region ?_
      | refine WC.block ?_)
    | refine seqQ_n ?_)
  refine WC.loop (σ := Nat × List UInt8 × List Nat) [5, 16, 17] (fun (k, acc, fp) => [(18, .int .i64 (k : Int))]) (fun (k, acc, fp) w => k ≤ l.length ∧ acc ++ (l.drop k).flatMap recO = recordE l ∧ St w0 [] w [sbC q acc fp] _) (fun (k, _) => l.length - k) (0, putN l.length, fp') ⟨Nat.zero_le _, rfl, hS⟩ ⟨rfl, trivial⟩ ?_
  clear hS
  rintro ⟨k, acc, fp⟩ g w ⟨hk, hacc, hS⟩
  by_cases hlt : k < l.length
  · obtain ⟨rb, ro, es, rfl, hF, hr, hes⟩ := h.at_ hlt
    have hes : es = cellsChg l[k] := hes
    subst hes
    have hr : w0.rangeAt rb (ro + k * 3) (cellsChg l[k]) := hr
    rw [List.drop_eq_getElem_cons hlt, List.flatMap_cons] at hacc
    generalize l[k] = o at *
    obtain ⟨key, val, gone⟩ := o
    have hlen := congrArg List.length hacc
    rw [List.length_append, List.length_append] at hlen
    have e0 : ([0] : List UInt8).length = 1 := rfl
    have e1 : ([1] : List UInt8).length = 1 := rfl
    have ht := textE_len key
    have htv := textE_len val
    rcases gone with _ | _
    · have hrec : recO ⟨key, val, false⟩ = [1] ++ textE key ++ textE val := by simp [recO]
      rw [hrec] at hacc hlen
      have e2 : ([1] ++ textE key).length = 1 + (textE key).length := by simp; omega
      have e3 : ([1] ++ textE key ++ textE val).length = 1 + (textE key).length + (textE val).length := by simp; omega
      repeat' (first
        | (show WL _ _ _ _ _ _ _; first
          | refine WL.pure rfl rfl rfl rfl ?_
          | refine WL.nil ?_
          | refine WL.load hS rfl rfl (LdOk.box (by repeat (first | exact List.Mem.head _ | apply List.Mem.tail)) rfl) rfl rfl rfl ?_
          | refine WL.add rfl rfl rfl (by omega) rfl rfl rfl ?_
          | (refine WL.load hS rfl rfl (LdOk.snap0 hF hr (by repeat (first | exact List.Mem.head _ | apply List.Mem.tail)) rfl) rfl rfl rfl ?_)
          | (refine WL.alloc (t := 79) hS rfl rfl rfl rfl rfl rfl ?_; intro w ob hS)
          | (refine WL.store hS rfl rfl rfl (by repeat (first | exact StB.here rfl | apply StB.there)) rfl rfl rfl ?_; intro w hS)
          | refine WL.index rfl rfl rfl rfl (by first | with_reducible assumption | omega) rfl rfl rfl rfl ?_)
        | (show WC _ _ _ _ _ _; first
          | refine WC.seq ?_
          | refine WC.region ?_
          | refine WC.block ?_
          | refine WC.skip ?_
          | (show WC _ _ (Code.region _ (List.toArray [_, _, _, _, _, _, _, _, _]) true) _ _ _; refine WC.drawL [sbC q acc fp] hS (by repeat (first | exact Pulls.nil | (apply Pulls.cons; focus (repeat (first | exact Pull.here | apply Pull.there))))) [0,1,3,4,5,7] [0,1,4,5,2,3,6,7,8] (by kernel_rfl) (by kernel_rfl) ?_; clear hS; intro w hS hM)
          | refine WC.condF rfl (by with_reducible rfl) ?_
          | refine WC.condT rfl (decide_eq_true (by first | with_reducible assumption | omega)) ?_)
        | (show WD _ _ _ _ _ _ _ _ _; first
          | refine WD.pure rfl rfl rfl rfl rfl ?_
          | refine WD.nil ?_
          | refine WD.load rfl rfl (LdOk.box (by repeat (first | exact List.Mem.head _ | apply List.Mem.tail)) rfl) rfl rfl rfl rfl ?_
          | (refine WD.cat rfl rfl rfl (by omega) rfl rfl rfl rfl ?_)
          | (refine WD.calls hS hM rfl rfl (wtext_c key _ (by omega)) rfl rfl rfl rfl rfl ?_; clear hS; rintro v w rfl hS)
          | (refine WD.calls hS hM rfl rfl (wtext_c val _ (by omega)) rfl rfl rfl rfl rfl ?_; clear hS; rintro v w rfl hS)
          | (refine WD.callL (D := [sbC q acc fp]) hS (by repeat (first | exact Pulls.nil | (apply Pulls.cons; focus (repeat (first | exact Pull.here | apply Pull.there))))) (.refl _ _) rfl rfl (fun hI => bwrites_c q acc ([1] ++ textE key ++ textE val) fp _ hI.head hI.headB (by omega)) rfl rfl rfl rfl rfl ?_; rintro v w ⟨rfl, fp', hm⟩; refine ⟨_, .of1 hm, fun hS hM => ?_⟩; clear hm))
        | refine seqQ_n ?_
        | refine blkQ_n ?_)
      exact rndQ_n (k + 1, acc ++ ([1] ++ textE key ++ textE val), fp') ⟨by omega, by rw [← hacc]; simp, hS.droplast2 (by repeat (first | exact Pulls.nil | (apply Pulls.cons; focus (repeat (first | exact Pull.here | apply Pull.there)))))⟩ (by show l.length - (k + 1) < l.length - k; omega) ⟨vint (by omega), trivial⟩ ⟨rfl, rfl, rfl, trivial⟩
    · have hrec : recO ⟨key, val, true⟩ = [0] ++ textE key := by simp [recO]
      rw [hrec] at hacc hlen
      have e2 : ([0] ++ textE key).length = 1 + (textE key).length := by simp; omega
      repeat' (first
        | (show WL _ _ _ _ _ _ _; first
          | refine WL.pure rfl rfl rfl rfl ?_
          | refine WL.nil ?_
          | refine WL.load hS rfl rfl (LdOk.box (by repeat (first | exact List.Mem.head _ | apply List.Mem.tail)) rfl) rfl rfl rfl ?_
          | refine WL.add rfl rfl rfl (by omega) rfl rfl rfl ?_
          | (refine WL.load hS rfl rfl (LdOk.snap0 hF hr (by repeat (first | exact List.Mem.head _ | apply List.Mem.tail)) rfl) rfl rfl rfl ?_)
          | (refine WL.alloc (t := 79) hS rfl rfl rfl rfl rfl rfl ?_; intro w ob hS)
          | (refine WL.calls hS rfl rfl (wtext_c key _ (by omega)) rfl rfl rfl ?_; rintro v w rfl hS)
          | (refine WL.callG rfl rfl (bwrites_c q acc ([0] ++ textE key) _ _ (hS.holds _ (List.Mem.tail _ (List.Mem.head _))) (hS.inB_of (List.Mem.tail _ (List.Mem.head _))) (by omega)) rfl rfl rfl ?_; rintro v w ⟨rfl, fp', hmut⟩; have hS := hS.mut hmut (.there .here); clear hmut)
          | refine WL.cat rfl rfl rfl (by omega) rfl rfl rfl ?_
          | (refine WL.store hS rfl rfl rfl (by repeat (first | exact StB.here rfl | apply StB.there)) rfl rfl rfl ?_; intro w hS)
          | refine WL.index rfl rfl rfl rfl (by first | with_reducible assumption | omega) rfl rfl rfl rfl ?_)
        | (show WC _ _ _ _ _ _; first
          | refine WC.seq ?_
          | refine WC.region ?_
          | refine WC.block ?_
          | refine WC.skip ?_
          | refine WC.condT rfl (by with_reducible rfl) ?_
          | refine WC.condT rfl (decide_eq_true (by first | with_reducible assumption | omega)) ?_)
        | refine seqQ_n ?_
        | refine blkQ_n ?_)
      exact rndQ_n (k + 1, acc ++ ([0] ++ textE key), fp') ⟨by omega, by rw [← hacc]; simp, hS.drop⟩ (by show l.length - (k + 1) < l.length - k; omega) ⟨vint (by omega), trivial⟩ ⟨rfl, rfl, rfl, trivial⟩
  · have hke : k = l.length := by omega
    subst hke
    have hacc : acc = recordE l := by simpa using hacc
    subst hacc
    repeat' (first
      | (show WL _ _ _ _ _ _ _; first
        | refine WL.pure rfl rfl rfl rfl ?_
        | refine WL.nil ?_
        | (refine WL.callG rfl rfl (bstring_c q (recordE l) fp _ (hS.holds _ (List.Mem.head _)) (hS.inB_of (List.Mem.head _)) (by omega)) rfl rfl rfl ?_; rintro v w ⟨rfl, hu⟩; have hS := hS.lose hu))
      | (show WC _ _ _ _ _ _; first
        | refine WC.seq ?_
        | refine WC.region ?_
        | refine WC.exit ?_
        | refine WC.ret ?_
        | refine WC.condF rfl (decide_eq_false (by first | with_reducible assumption | omega)) ?_)
      | refine seqQ_n ?_
      | refine seqQ_x ?_
      | refine blkQ_hit rfl ?_
      | refine rndQ_x ?_)
    exact fin1r rfl rfl ⟨hS.upd, rfl⟩
/-- the changes of bytes, new memory -/
def opsR (w0 : World) (r : List Chg × Int) (v : Value) (w' : World) : Prop := Upd [] w0 w' ∧ ∃ A cap, v = .tuple #[.slice A r.1.length cap, .int .i64 r.2] ∧ New w0 w' (.own (.slice A r.1.length cap) 79 3 r.1.length (chgs r.1))
set_option maxHeartbeats 8000000 in
set_option maxRecDepth 100000 in
theorem ops_c (s : List UInt8) (w0 : World) (hl : s.length ≤ 1099511627776) : Cal Tryz.prog 91 [str s] w0 (opsR w0 (opsE s)) := by
  refine Cal.mk' (by kernel_rfl) Tryz.func91 rfl rfl fun hS => ?_
  rcases hu : uintE s with ⟨n, u, e⟩
  have hu0 : uintE (s.drop 0) = (n, u, e) := hu
  have hule := uintE_le s
  have hnok := uintE_ok s
  rw [hu] at hule hnok
  dsimp only at hule hnok
  by_cases he : e = 0
  rotate_left
  · rw [opsE_e hu he]
    clear hnok hu
    repeat' (first
      | (show WL _ _ _ _ _ _ _; first
        | refine WL.pure rfl rfl rfl rfl ?_
        | refine WL.nil ?_
        | (refine WL.callG rfl rfl (wnew_c s _) rfl rfl rfl ?_; rintro v w ⟨hup, r, rfl, hnew⟩; have hS := hS.new hup hnew; clear hup hnew)
        | (refine WL.callG rfl rfl (uint_e hu0 (hS.holds _ (List.Mem.head _)) (hS.inB_of (List.Mem.head _)) (by omega) (by omega)) rfl rfl rfl ?_; rintro v w ⟨rfl, hmut⟩; have hS := hS.mut hmut .here; clear hmut))
      | (show WC _ _ _ _ _ _; first
        | refine WC.seq ?_
        | refine WC.region ?_
        | refine WC.ret ?_
        | refine WC.condT rfl (decide_eq_true (by first | with_reducible assumption | omega)) ?_)
      | refine seqQ_n ?_
      | refine seqQ_r ?_)
    have hS := hS.nilRow 79 3
    exact fin2r rfl rfl rfl ⟨hS.upd, _, _, rfl, hS.newOf (List.Mem.head _)⟩
  subst he
  obtain ⟨hn63, _⟩ := hnok rfl
  rw [opsE_of hu]
  clear hnok hu
  generalize hRES : opsFin s [] u (opsF n (s.drop u)) = RES
  repeat' (first
    | (show WL _ _ _ _ _ _ _; first
      | refine WL.pure rfl rfl rfl rfl ?_
      | refine WL.nil ?_
      | (refine WL.callG rfl rfl (wnew_c s _) rfl rfl rfl ?_; rintro v w ⟨hup, r, rfl, hnew⟩; have hS := hS.new hup hnew; clear hup hnew)
      | (refine WL.callG rfl rfl (uint_e hu0 (hS.holds _ (List.Mem.head _)) (hS.inB_of (List.Mem.head _)) (by omega) (by omega)) rfl rfl rfl ?_; rintro v w ⟨rfl, hmut⟩; have hS := hS.mut hmut .here; clear hmut)
      | (refine WL.slit (t := 73) hS rfl rfl rfl rfl rfl ?_; intro w ob hS; have hS := hS.boxRow (n := 0) (size := 3) .here rfl (Nat.zero_le _)))
    | (show WC _ _ _ _ _ _; first
      | refine WC.seq ?_
      | refine WC.region ?_
      | refine WC.block ?_
      | refine WC.skip ?_
      | refine WC.condF rfl (by decide) ?_)
    | refine seqQ_n ?_)
  refine WC.loop (σ := Nat × List Chg × Nat × Option Addr × Nat) [4, 23] (fun (k, l, p, A, cap) => [(7, .slice A l.length cap), (24, .int .i64 (k : Int))])
    (fun (k, l, p, A, cap) w => k ≤ n ∧ p ≤ s.length ∧ l.length ≤ p ∧ opsFin s l p (opsF (n - k) (s.drop p)) = RES ∧ St w0 [] w [.own (.slice A l.length cap) 79 3 l.length (chgs l), rdC r s p] _)
    (fun (k, _) => n - k) (0, [], u, _, 0) ⟨Nat.zero_le _, hule, Nat.zero_le _, hRES, by rw [Nat.zero_add] at hS; exact hS⟩ ⟨rfl, rfl, trivial⟩ ?_
  clear hS hRES hu0
  rintro ⟨k, l, p, A, cap⟩ g w ⟨hk, hp, hlp, hres, hS⟩
  show WC _ _ _ (lf _ [(7, .slice A l.length cap), (24, .int .i64 (k : Int))] _ _) _ _
  by_cases hlt : k < n
  · obtain ⟨m, hm⟩ : ∃ m, n - k = m + 1 := ⟨n - k - 1, by omega⟩
    have hm1 : n - (k + 1) = m := by omega
    rw [hm] at hres
    rcases hu1 : uintE (s.drop p) with ⟨kd, u1, e1⟩
    have hl1 := uintE_le (s.drop p)
    rw [hu1, List.length_drop] at hl1
    dsimp only at hl1
    by_cases he1 : e1 = 0
    rotate_left
    · rw [opsFin_no (opE_e hu1 he1) he1] at hres
      subst hres
      clear hm hm1
      repeat' (first
        | (show WL _ _ _ _ _ _ _; first
          | refine WL.pure rfl rfl rfl rfl ?_
          | refine WL.nil ?_
          | (refine WL.callG rfl rfl (uint_e hu1 (hS.holds _ (List.Mem.tail _ (List.Mem.head _))) (hS.inB_of (List.Mem.tail _ (List.Mem.head _))) (by omega) (by omega)) rfl rfl rfl ?_; rintro v w ⟨rfl, hmut⟩; have hS := hS.mut hmut (.there .here); clear hmut)
          | refine WL.skip rfl rfl rfl ?_
          | ((fail_if_success (refine WL.wanted rfl ?_)); refine WL.guard rfl rfl rfl (fun h => ?_) (fun h => ?_) <;> (try simp only [Classical.not_not, Bool.not_eq_true', Bool.not_eq_false', Bool.not_eq_eq_eq_not, Bool.not_true, Bool.not_false, beq_iff_eq, beq_eq_false_iff_ne, ne_eq, decide_eq_decide, decide_eq_true_eq, decide_eq_false_iff_not, Bool.and_eq_true, Bool.or_eq_true, Bool.and_eq_false_iff, Bool.or_eq_false_iff] at h) <;> (try (exfalso; first | omega | contradiction))))
        | (show WC _ _ _ _ _ _; first
          | refine WC.seq ?_
          | refine WC.region ?_
          | refine WC.block ?_
          | refine WC.skip ?_
          | refine WC.ret ?_
          | refine WC.condF rfl (by with_reducible rfl) ?_
          | refine WC.condT rfl (decide_eq_true (by first | with_reducible assumption | omega)) ?_)
        | refine seqQ_n ?_
        | refine seqQ_r ?_
        | refine blkQ_r ?_
        | refine rndQ_r ?_)
      have hS := hS.nilRow 79 3
      exact fin2r rfl rfl rfl ⟨hS.upd, _, _, rfl, hS.newOf (List.Mem.head _)⟩
    subst he1
    have hd1 : (s.drop p).drop u1 = s.drop (p + u1) := by rw [List.drop_drop]
    by_cases hk1 : 1 < kd
    · rw [opsFin_no (opE_big hu1 hk1) (by decide)] at hres
      subst hres
      clear hm hm1 hd1
      repeat' (first
        | (show WL _ _ _ _ _ _ _; first
          | refine WL.pure rfl rfl rfl rfl ?_
          | refine WL.nil ?_
          | (refine WL.callG rfl rfl (uint_e hu1 (hS.holds _ (List.Mem.tail _ (List.Mem.head _))) (hS.inB_of (List.Mem.tail _ (List.Mem.head _))) (by omega) (by omega)) rfl rfl rfl ?_; rintro v w ⟨rfl, hmut⟩; have hS := hS.mut hmut (.there .here); clear hmut))
        | (show WC _ _ _ _ _ _; first
          | refine WC.seq ?_
          | refine WC.region ?_
          | refine WC.block ?_
          | refine WC.skip ?_
          | refine WC.ret ?_
          | refine WC.condT rfl (by decide) ?_
          | refine WC.condT rfl (decide_eq_true (by first | with_reducible assumption | omega)) ?_)
        | refine seqQ_n ?_
        | refine seqQ_r ?_
        | refine blkQ_r ?_
        | refine rndQ_r ?_)
      have hS := hS.nilRow 79 3
      exact fin2r rfl rfl rfl ⟨hS.upd, _, _, rfl, hS.newOf (List.Mem.head _)⟩
    rcases hu2 : rtextE (s.drop (p + u1)) with ⟨x, v2, e2⟩
    have hl2 := rtextE_le' (s.drop (p + u1))
    rw [hu2, List.length_drop] at hl2
    dsimp only at hl2
    have hu2' := hu2
    rw [← hd1] at hu2'
    by_cases he2 : e2 = 0
    rotate_left
    · rw [opsFin_no (opE_k hu1 hk1 hu2' he2) he2] at hres
      subst hres
      clear hm hm1 hd1 hu2'
      repeat' (first
        | (show WL _ _ _ _ _ _ _; first
          | refine WL.pure rfl rfl rfl rfl ?_
          | refine WL.nil ?_
          | (refine WL.callG rfl rfl (uint_e hu1 (hS.holds _ (List.Mem.tail _ (List.Mem.head _))) (hS.inB_of (List.Mem.tail _ (List.Mem.head _))) (by omega) (by omega)) rfl rfl rfl ?_; rintro v w ⟨rfl, hmut⟩; have hS := hS.mut hmut (.there .here); clear hmut)
          | (refine WL.alloc (t := 79) hS rfl rfl rfl rfl rfl rfl ?_; intro w ob hS)
          | (refine WL.callG rfl rfl (rtext_e hu2 (hS.holds _ (List.Mem.tail _ (List.Mem.tail _ (List.Mem.head _)))) (hS.inB_of (List.Mem.tail _ (List.Mem.tail _ (List.Mem.head _)))) (by omega) (by omega)) rfl rfl rfl ?_; rintro v w ⟨rfl, hmut⟩; have hS := hS.mut hmut (.there (.there .here)); clear hmut)
          | (refine WL.store hS rfl rfl rfl (by repeat (first | exact StB.here rfl | apply StB.there)) rfl rfl rfl ?_; intro w hS)
          | refine WL.build rfl rfl rfl rfl rfl ?_)
        | (show WC _ _ _ _ _ _; first
          | refine WC.seq ?_
          | refine WC.region ?_
          | refine WC.block ?_
          | refine WC.skip ?_
          | refine WC.ret ?_
          | refine WC.condF rfl (by decide) ?_
          | refine WC.condT rfl (decide_eq_true (by first | with_reducible assumption | omega)) ?_
          | refine WC.condF rfl (decide_eq_false (by first | with_reducible assumption | omega)) ?_)
        | refine seqQ_n ?_
        | refine seqQ_r ?_
        | refine blkQ_r ?_
        | refine rndQ_r ?_)
      have hS := hS.nilRow 79 3
      exact fin2r rfl rfl rfl ⟨hS.upd, _, _, rfl, hS.newOf (List.Mem.head _)⟩
    subst he2
    have hd2 : (s.drop p).drop (u1 + v2) = s.drop (p + u1 + v2) := by rw [List.drop_drop, Nat.add_assoc]
    have hcap := hS.own_len (List.Mem.head _)
    have hpos := uintE_pos (s.drop p)
    rw [hu1] at hpos
    have hpos : 1 ≤ u1 := hpos rfl
    by_cases hk0 : kd = 0
    · subst hk0
      rw [opsFin_ok (opE_gone hu1 hu2'), hd2, ← Nat.add_assoc, ← hm1] at hres
      clear hm hm1 hd1 hu2' hd2
      repeat' (first
        | (show WL _ _ _ _ _ _ _; first
          | refine WL.pure rfl rfl rfl rfl ?_
          | refine WL.nil ?_
          | refine WL.load hS rfl rfl (LdOk.box (by repeat (first | exact List.Mem.head _ | apply List.Mem.tail)) rfl) rfl rfl rfl ?_
          | refine WL.add rfl rfl rfl (by omega) rfl rfl rfl ?_
          | (refine WL.callG rfl rfl (uint_e hu1 (hS.holds _ (List.Mem.tail _ (List.Mem.head _))) (hS.inB_of (List.Mem.tail _ (List.Mem.head _))) (by omega) (by omega)) rfl rfl rfl ?_; rintro v w ⟨rfl, hmut⟩; have hS := hS.mut hmut (.there .here); clear hmut)
          | (refine WL.alloc (t := 79) hS rfl rfl rfl rfl rfl rfl ?_; intro w ob hS)
          | (refine WL.callG rfl rfl (rtext_e hu2 (hS.holds _ (List.Mem.tail _ (List.Mem.tail _ (List.Mem.head _)))) (hS.inB_of (List.Mem.tail _ (List.Mem.tail _ (List.Mem.head _)))) (by omega) (by omega)) rfl rfl rfl ?_; rintro v w ⟨rfl, hmut⟩; have hS := hS.mut hmut (.there (.there .here)); clear hmut)
          | (refine WL.app hS rfl rfl rfl rfl (RdOk.box (by repeat (first | exact List.Mem.head _ | apply List.Mem.tail))) rfl rfl (fun A cap => by repeat (first | exact Repl.here | apply Repl.there)) (by omega) rfl rfl rfl ?_; intro A cap w hS)
          | (refine WL.store hS rfl rfl rfl (by repeat (first | exact StB.here rfl | apply StB.there)) rfl rfl rfl ?_; intro w hS)
          | refine WL.build rfl rfl rfl rfl rfl ?_
          | (refine WL.slit hS rfl rfl rfl rfl rfl ?_; intro w b hS))
        | (show WC _ _ _ _ _ _; first
          | refine WC.seq ?_
          | refine WC.region ?_
          | refine WC.block ?_
          | refine WC.skip ?_
          | refine WC.condF rfl (by decide) ?_
          | refine WC.condT rfl (decide_eq_true (by first | with_reducible assumption | omega)) ?_)
        | refine seqQ_n ?_
        | refine blkQ_n ?_)
      exact rndQ_n (k + 1, l ++ [⟨x, [], true⟩], p + u1 + v2, _, _) ⟨by omega, by omega, by simp; omega, hres, by
        have hS := hS.drop.drop
        rw [List.length_append, ← chgs_snoc]
        exact hS⟩ (by show n - (k + 1) < n - k; omega) ⟨by rw [List.length_append]; rfl, vint (by omega), trivial⟩ ⟨rfl, rfl, trivial⟩
    obtain rfl : kd = 1 := by omega
    rcases hu3 : rtextE (s.drop (p + u1 + v2)) with ⟨y, v3, e3⟩
    have hl3 := rtextE_le' (s.drop (p + u1 + v2))
    rw [hu3, List.length_drop] at hl3
    dsimp only at hl3
    have hu3' := hu3
    rw [← hd2] at hu3'
    by_cases he3 : e3 = 0
    rotate_left
    · rw [opsFin_no (opE_v hu1 hu2' hu3' he3) he3] at hres
      subst hres
      clear hm hm1 hd1 hu2' hu3' hd2
      repeat' (first
        | (show WL _ _ _ _ _ _ _; first
          | refine WL.pure rfl rfl rfl rfl ?_
          | refine WL.nil ?_
          | refine WL.load hS rfl rfl (LdOk.box (by repeat (first | exact List.Mem.head _ | apply List.Mem.tail)) rfl) rfl rfl rfl ?_
          | (refine WL.callG rfl rfl (uint_e hu1 (hS.holds _ (List.Mem.tail _ (List.Mem.head _))) (hS.inB_of (List.Mem.tail _ (List.Mem.head _))) (by omega) (by omega)) rfl rfl rfl ?_; rintro v w ⟨rfl, hmut⟩; have hS := hS.mut hmut (.there .here); clear hmut)
          | (refine WL.alloc (t := 79) hS rfl rfl rfl rfl rfl rfl ?_; intro w ob hS)
          | (refine WL.callG rfl rfl (rtext_e hu2 (hS.holds _ (List.Mem.tail _ (List.Mem.tail _ (List.Mem.head _)))) (hS.inB_of (List.Mem.tail _ (List.Mem.tail _ (List.Mem.head _)))) (by omega) (by omega)) rfl rfl rfl ?_; rintro v w ⟨rfl, hmut⟩; have hS := hS.mut hmut (.there (.there .here)); clear hmut)
          | (refine WL.callG rfl rfl (rtext_e hu3 (hS.holds _ (List.Mem.tail _ (List.Mem.tail _ (List.Mem.head _)))) (hS.inB_of (List.Mem.tail _ (List.Mem.tail _ (List.Mem.head _)))) (by omega) (by omega)) rfl rfl rfl ?_; rintro v w ⟨rfl, hmut⟩; have hS := hS.mut hmut (.there (.there .here)); clear hmut)
          | (refine WL.store hS rfl rfl rfl (by repeat (first | exact StB.here rfl | apply StB.there)) rfl rfl rfl ?_; intro w hS)
          | refine WL.build rfl rfl rfl rfl rfl ?_)
        | (show WC _ _ _ _ _ _; first
          | refine WC.seq ?_
          | refine WC.region ?_
          | refine WC.block ?_
          | refine WC.skip ?_
          | refine WC.ret ?_
          | refine WC.condT rfl (by decide) ?_
          | refine WC.condF rfl (by decide) ?_
          | refine WC.condT rfl (decide_eq_true (by first | with_reducible assumption | omega)) ?_)
        | refine seqQ_n ?_
        | refine seqQ_r ?_
        | refine blkQ_r ?_
        | refine rndQ_r ?_)
      have hS := hS.nilRow 79 3
      exact fin2r rfl rfl rfl ⟨hS.upd, _, _, rfl, hS.newOf (List.Mem.head _)⟩
    subst he3
    have hd3 : (s.drop p).drop (u1 + v2 + v3) = s.drop (p + u1 + v2 + v3) := by rw [List.drop_drop]; congr 1; omega
    rw [opsFin_ok (opE_put hu1 hu2' hu3'), hd3, show p + (u1 + v2 + v3) = p + u1 + v2 + v3 by omega, ← hm1] at hres
    clear hm hm1 hd1 hu2' hu3' hd2 hd3 hk0 hk1
    repeat' (first
      | (show WL _ _ _ _ _ _ _; first
        | refine WL.pure rfl rfl rfl rfl ?_
        | refine WL.nil ?_
        | refine WL.load hS rfl rfl (LdOk.box (by repeat (first | exact List.Mem.head _ | apply List.Mem.tail)) rfl) rfl rfl rfl ?_
        | refine WL.add rfl rfl rfl (by omega) rfl rfl rfl ?_
        | (refine WL.callG rfl rfl (uint_e hu1 (hS.holds _ (List.Mem.tail _ (List.Mem.head _))) (hS.inB_of (List.Mem.tail _ (List.Mem.head _))) (by omega) (by omega)) rfl rfl rfl ?_; rintro v w ⟨rfl, hmut⟩; have hS := hS.mut hmut (.there .here); clear hmut)
        | (refine WL.alloc (t := 79) hS rfl rfl rfl rfl rfl rfl ?_; intro w ob hS)
        | (refine WL.callG rfl rfl (rtext_e hu2 (hS.holds _ (List.Mem.tail _ (List.Mem.tail _ (List.Mem.head _)))) (hS.inB_of (List.Mem.tail _ (List.Mem.tail _ (List.Mem.head _)))) (by omega) (by omega)) rfl rfl rfl ?_; rintro v w ⟨rfl, hmut⟩; have hS := hS.mut hmut (.there (.there .here)); clear hmut)
        | (refine WL.callG rfl rfl (rtext_e hu3 (hS.holds _ (List.Mem.tail _ (List.Mem.tail _ (List.Mem.head _)))) (hS.inB_of (List.Mem.tail _ (List.Mem.tail _ (List.Mem.head _)))) (by omega) (by omega)) rfl rfl rfl ?_; rintro v w ⟨rfl, hmut⟩; have hS := hS.mut hmut (.there (.there .here)); clear hmut)
        | (refine WL.app hS rfl rfl rfl rfl (RdOk.box (by repeat (first | exact List.Mem.head _ | apply List.Mem.tail))) rfl rfl (fun A cap => by repeat (first | exact Repl.here | apply Repl.there)) (by omega) rfl rfl rfl ?_; intro A cap w hS)
        | (refine WL.store hS rfl rfl rfl (by repeat (first | exact StB.here rfl | apply StB.there)) rfl rfl rfl ?_; intro w hS)
        | refine WL.build rfl rfl rfl rfl rfl ?_
        | (refine WL.slit hS rfl rfl rfl rfl rfl ?_; intro w b hS))
      | (show WC _ _ _ _ _ _; first
        | refine WC.seq ?_
        | refine WC.region ?_
        | refine WC.block ?_
        | refine WC.skip ?_
        | refine WC.condT rfl (by decide) ?_
        | refine WC.condF rfl (by decide) ?_
        | refine WC.condT rfl (decide_eq_true (by first | with_reducible assumption | omega)) ?_)
      | refine seqQ_n ?_
      | refine blkQ_n ?_)
    exact rndQ_n (k + 1, l ++ [⟨x, y, false⟩], p + u1 + v2 + v3, _, _) ⟨by omega, by omega, by simp; omega, hres, by
      have hS := hS.drop.drop
      rw [List.length_append, ← chgs_snoc]
      exact hS⟩ (by show n - (k + 1) < n - k; omega) ⟨by rw [List.length_append]; rfl, vint (by omega), trivial⟩ ⟨rfl, rfl, trivial⟩
  · have hke : n - k = 0 := by omega
    rw [hke] at hres
    have hres : (if p < s.length then (([], 5) : List Chg × Int) else (l, 0)) = RES := by rw [← hres]; unfold opsFin opsF; simp
    by_cases hps : p < s.length
    case' pos => rw [if_pos hps] at hres
    case' neg => rw [if_neg hps] at hres
    all_goals
      subst hres
      clear hke
      repeat' (first
        | (show WL _ _ _ _ _ _ _; first
          | refine WL.pure rfl rfl rfl rfl ?_
          | refine WL.nil ?_
          | (refine WL.calls hS rfl rfl (rdone_c r s p _ (hS.holds _ (List.Mem.tail _ (List.Mem.head _)))) rfl rfl rfl ?_; rintro v w rfl hS; first | rw [if_pos hps] | rw [if_neg hps]))
        | (show WC _ _ _ _ _ _; first
          | refine WC.seq ?_
          | refine WC.region ?_
          | refine WC.skip ?_
          | refine WC.exit ?_
          | refine WC.ret ?_
          | refine WC.condT rfl (by decide) ?_
          | refine WC.condF rfl (by decide) ?_
          | refine WC.condF rfl (decide_eq_false (by first | with_reducible assumption | omega)) ?_)
        | refine seqQ_n ?_
        | refine seqQ_x ?_
        | refine seqQ_r ?_
        | refine blkQ_hit rfl ?_
        | refine rndQ_x ?_)
    all_goals first
      | exact fin2r rfl rfl rfl ⟨hS.upd, _, _, rfl, hS.newOf (List.Mem.head _)⟩
      | exact fin2r rfl rfl rfl ⟨hS.upd, _, _, rfl, (hS.nilRow 79 3).newOf (List.Mem.head _)⟩
end Go.Proofs.YtccfiohagbneaaaGreatDoor

/- What is proved: what the reference's numbers and texts are, written and read. Conditions: texts of bounded length. -/
set_option linter.unusedSimpArgs false
set_option linter.unusedVariables false
namespace Go.J
open Go
/-- seven bits a byte, the lowest first: what they are worth -/
def lowV : List UInt8 → Nat
  | [] => 0
  | c :: l => c.toNat % 128 + 128 * lowV l
theorem lowV_lt : ∀ l : List UInt8, lowV l < 128 ^ l.length
  | [] => by simp [lowV]
  | c :: l => by
    have := lowV_lt l
    simp only [lowV, List.length_cons, Nat.pow_succ]
    omega
theorem lowV_snoc : ∀ (l : List UInt8) (c : UInt8), lowV (l ++ [c]) = lowV l + c.toNat % 128 * 128 ^ l.length
  | [], c => by simp [lowV]
  | a :: l, c => by
    simp only [List.cons_append, lowV, List.length_cons, Nat.pow_succ, lowV_snoc l c, Nat.mul_add]
    rw [show 128 * (c.toNat % 128 * 128 ^ l.length) = c.toNat % 128 * (128 ^ l.length * 128) by rw [← Nat.mul_assoc, Nat.mul_comm 128, Nat.mul_assoc, Nat.mul_comm 128]]
    omega
/-- bytes that go on -/
theorem varE_go : ∀ (l : List UInt8) (t : List UInt8) (i x : Nat), (∀ c ∈ l, 128 ≤ c.toNat) → i + l.length ≤ 9 → varE (l ++ t) i x = varE t (i + l.length) (x + lowV l * 128 ^ i)
  | [], t, i, x, _, _ => by simp [lowV]
  | c :: l, t, i, x, h, hi => by
    have hc := h c (List.mem_cons_self ..)
    simp only [List.length_cons] at hi
    have ih := varE_go l t (i + 1) (x + c.toNat % 128 * 128 ^ i) (fun y hy => h y (List.mem_cons_of_mem _ hy)) (by omega)
    have e : varE ((c :: l) ++ t) i x = if i = 9 ∧ 1 < c.toNat then (0, 0, 3) else if 128 ≤ c.toNat then varE (l ++ t) (i + 1) (x + c.toNat % 128 * 128 ^ i) else if c.toNat = 0 ∧ 0 < i then (0, 0, 3) else (x + c.toNat % 128 * 128 ^ i, i + 1, 0) := rfl
    rw [e, if_neg (by omega), if_pos hc, ih]
    congr 1
    · simp only [List.length_cons]; omega
    · simp only [lowV, Nat.pow_succ, Nat.add_mul]
      rw [show 128 * lowV l * 128 ^ i = lowV l * (128 ^ i * 128) by rw [Nat.mul_comm 128, Nat.mul_assoc, Nat.mul_comm 128]]
      omega
end Go.J
namespace Go.Proofs.YtccfiohagbneaaaGreatDoor
open Go Go.J Go.RowKit

theorem cellLow {n : Nat} : IntKind.u8.wrap (n : Int) = (((UInt8.ofNat (n % 256)).toNat : Nat) : Int) := by
  rw [Go.J.ofNat_toNat (by omega), IntKind.wrap_u8]; omega
set_option maxHeartbeats 8000000 in
set_option maxRecDepth 100000 in
theorem rvarint_c : ∀ (m n : Nat) (w0 : World), n ≤ m → n < 18446744073709551616 → Cal Tryz.prog 178 [.int .u64 (n : Int)] w0 (fun v w' => Upd [] w0 w' ∧ v = str (putN n))
  | m, n, w0, hm, hb => by
    refine Cal.mk' (by kernel_rfl) Tryz.func178 rfl rfl fun hS => ?_
    by_cases h : n < 128
    · have hE : putN n = [UInt8.ofNat n] := putN_small h
      have hcell := byte_low h
      rw [hE]
      repeat' (first
        | (show WL _ _ _ _ _ _ _; first
          | refine WL.pure rfl rfl rfl rfl ?_
          | refine WL.nil ?_
          | refine WL.b2sBox (s := [UInt8.ofNat n]) hS rfl rfl (by kernel_rfl) rfl (by repeat (first | exact List.Mem.head _ | apply List.Mem.tail)) (congrArg (fun x => [Value.int .u8 x]) hcell) rfl (by decide) rfl rfl rfl ?_
          | (refine WL.slit hS rfl rfl rfl rfl rfl ?_; intro w b hS))
        | (show WC _ _ _ _ _ _; first
          | refine WC.seq ?_
          | refine WC.region ?_
          | refine WC.ret ?_
          | refine WC.condT rfl (decide_eq_true (by first | with_reducible assumption | omega)) ?_)
        | refine seqQ_n ?_
        | refine seqQ_r ?_)
      exact fin1r rfl rfl ⟨hS.upd, rfl⟩
    · cases m with
      | zero => omega
      | succ m =>
        have ih := fun w0 => rvarint_c m (n / 128) w0 (by omega) (by omega)
        have hE : putN n = [UInt8.ofNat (n % 128 + 128)] ++ putN (n / 128) := by rw [putN_big h]; rfl
        have hpl := putN_len10 (n := n / 128) (by omega)
        have hcell : IntKind.u8.wrap (IntKind.u64.wrap (128 + (n : Int) % 128)) = (((UInt8.ofNat (n % 128 + 128)).toNat : Nat) : Int) := by
          rw [IntKind.wrap_u64, Go.J.ofNat_toNat (by omega), IntWalk.u8_in _ (by omega)]; omega
        have h1 : ([UInt8.ofNat (n % 128 + 128)] : List UInt8).length = 1 := rfl
        have hq : (n : Int) / 128 = ((n / 128 : Nat) : Int) := by omega
        have hqw : IntKind.u64.wrap ((n : Int) / 128) = (n : Int) / 128 := by rw [IntKind.wrap_u64]; omega
        have hrw : IntKind.u64.wrap ((n : Int) % 128) = (n : Int) % 128 := by rw [IntKind.wrap_u64]; omega
        rw [hE]
        generalize putN (n / 128) = rest at *
        repeat' (first
          | (show WL _ _ _ _ _ _ _; first
            | refine WL.pure rfl rfl rfl rfl ?_
            | refine WL.nil ?_)
          | (show WC _ _ _ _ _ _; first
            | refine WC.seq ?_
            | refine WC.region ?_
            | refine WC.skip ?_
            | refine WC.condF rfl (decide_eq_false (by first | with_reducible assumption | omega)) ?_)
          | refine seqQ_n ?_)
        refine WC.drawP hS [0,1,2,3,6,7,9,10] [0,1,2,3,6,7] (.two 4 [] (.two 5 [8,9,10] .nil 8 [5,9,10] .nil) 8 [4,5,9,10] .nil) (by kernel_rfl) (by kernel_rfl) ?_
        clear hS
        intro w hS hM
        repeat' (first
          | (show WC _ _ _ _ _ _; first
            | refine WC.ret ?_)
          | (show WD _ _ _ _ _ _ _ _ _; first
            | refine WD.pure rfl rfl rfl rfl rfl ?_
            | refine WD.nil ?_
            | (refine WD.remK rfl rfl rfl (by omega) (by omega) hrw rfl rfl rfl rfl ?_)
            | (refine WD.quoK rfl rfl rfl (by omega) (by omega) hqw rfl rfl rfl rfl ?_; rw [hq])
            | (refine WD.fork ?_ ?_)
            | (refine WD.calls hS hM rfl rfl (ih _) rfl rfl rfl rfl rfl ?_; clear hS; rintro v w rfl hS)
            | (refine WD.b2sBox (s := [UInt8.ofNat (n % 128 + 128)]) hS hM rfl rfl (by kernel_rfl) rfl (by repeat (first | exact List.Mem.head _ | apply List.Mem.tail)) (congrArg (fun x => [Value.int .u8 x]) hcell) rfl (by decide) rfl rfl rfl rfl rfl ?_)
            | (refine WD.cat rfl rfl rfl (by omega) rfl rfl rfl rfl ?_)
            | (refine WD.slit hS hM rfl rfl rfl rfl rfl rfl rfl ?_; intro w b hS hM))
          | (refine WDo.calls hS hM rfl rfl (ih _) rfl rfl rfl rfl ?_; clear hS; rintro v w rfl hS)
          | (refine WDo.slit hS hM rfl rfl rfl rfl rfl rfl ?_; clear hS hM; intro w b hS hM)
          | (refine WDo.b2sBox (s := [UInt8.ofNat (n % 128 + 128)]) hS hM rfl rfl (by kernel_rfl) rfl (by repeat (first | exact List.Mem.head _ | apply List.Mem.tail)) (congrArg (fun x => [Value.int .u8 x]) hcell) rfl (by decide) rfl rfl rfl rfl ?_)
          | refine seqQ_n ?_)
        all_goals exact fin1r rfl rfl ⟨hS.upd, rfl⟩
theorem wrap_nat64 {n : Nat} (h : n < 18446744073709551616) : IntKind.u64.wrap (n : Int) = (n : Int) := by rw [IntKind.wrap_u64]; omega
set_option maxHeartbeats 4000000 in
set_option maxRecDepth 100000 in
theorem rnum_c (n : Nat) (w0 : World) (hn : n < 9223372036854775808) : Cal Tryz.prog 154 [.int .i64 (n : Int)] w0 (fun v w' => Upd [] w0 w' ∧ v = str (putN n)) := by
  refine Cal.mk' (by kernel_rfl) Tryz.func154 rfl rfl fun hS => ?_
  have hw := wrap_nat64 (n := n) (by omega)
  repeat' (first
    | (show WL _ _ _ _ _ _ _; first
      | refine WL.pure rfl rfl rfl rfl ?_
      | refine WL.nil ?_
      | (refine WL.calls hS rfl (congrArg (fun z => [Value.int .u64 z]) hw) (rvarint_c n n _ (Nat.le_refl _) (by omega)) rfl rfl rfl ?_; rintro v w rfl hS))
    | (show WC _ _ _ _ _ _; first
      | refine WC.seq ?_
      | refine WC.region ?_
      | refine WC.ret ?_)
    | refine seqQ_n ?_)
  exact fin1r rfl rfl ⟨hS.upd, rfl⟩
set_option maxHeartbeats 4000000 in
set_option maxRecDepth 100000 in
theorem rtextw_c (s : List UInt8) (w0 : World) (hl : s.length ≤ 1099511627776) : Cal Tryz.prog 136 [str s] w0 (fun v w' => Upd [] w0 w' ∧ v = str (textE s)) := by
  refine Cal.mk' (by kernel_rfl) Tryz.func136 rfl rfl fun hS => ?_
  have hp := putN_len10 (n := s.length) (by omega)
  have hw := wrap_nat64 (n := s.length) (by omega)
  repeat' (first
    | (show WL _ _ _ _ _ _ _; first
      | refine WL.pure rfl rfl rfl rfl ?_
      | refine WL.nil ?_
      | (refine WL.calls hS rfl (congrArg (fun z => [Value.int .u64 z]) hw) (rvarint_c s.length s.length _ (Nat.le_refl _) (by omega)) rfl rfl rfl ?_; rintro v w rfl hS)
      | refine WL.cat rfl rfl rfl (by omega) rfl rfl rfl ?_)
    | (show WC _ _ _ _ _ _; first
      | refine WC.seq ?_
      | refine WC.region ?_
      | refine WC.ret ?_)
    | refine seqQ_n ?_)
  exact fin1r rfl rfl ⟨hS.upd, rfl⟩
/-! ## read -/
theorem lowV_bound {l : List UInt8} (h : l.length ≤ 10) (h10 : ∀ c, l[9]? = some c → c.toNat ≤ 1) : lowV l < 18446744073709551616 := by
  by_cases hl : l.length ≤ 9
  · have h1 := lowV_lt l
    have h2 : 128 ^ l.length ≤ 128 ^ 9 := Nat.pow_le_pow_right (by omega) hl
    rw [pow128_9] at h2
    omega
  · have hl : l.length = 10 := by omega
    have e : l = l.take 9 ++ [l[9]'(by omega)] := by
      conv => lhs; rw [← List.take_append_drop 9 l]
      rw [List.drop_eq_getElem_cons (by omega), List.drop_of_length_le (by omega)]
    have h9 := h10 _ (List.getElem?_eq_getElem (by omega : 9 < l.length))
    generalize l[9]'(by omega) = c at *
    rw [e, lowV_snoc]
    have h3 : (l.take 9).length = 9 := by rw [List.length_take]; omega
    have h1 : lowV (l.take 9) < 128 ^ 9 := by have := lowV_lt (l.take 9); rwa [h3] at this
    rw [h3]
    rw [pow128_9] at h1 ⊢
    have : c.toNat % 128 ≤ 1 := by omega
    have : c.toNat % 128 * 9223372036854775808 ≤ 1 * 9223372036854775808 := Nat.mul_le_mul_right _ this
    omega
/-- where the number ends -/
theorem varE_end {s : List UInt8} {n : Nat} (hn : n ≤ 9) (hgo : ∀ c ∈ s.take n, 128 ≤ c.toNat) {c : UInt8} (hc : s[n]? = some c) (hst : c.toNat < 128 ∨ n = 9) :
    varE s 0 0 = if n = 9 ∧ 1 < c.toNat ∨ 0 < n ∧ c.toNat = 0 then (0, 0, 3) else (lowV (s.take (n + 1)), n + 1, 0) := by
  obtain ⟨hlt, hcv⟩ := List.getElem?_eq_some_iff.1 hc
  have hl : (s.take n).length = n := by rw [List.length_take]; omega
  have e : s = s.take n ++ c :: s.drop (n + 1) := by
    conv => lhs; rw [← List.take_append_drop n s]
    rw [List.drop_eq_getElem_cons hlt, hcv]
  have hlow : lowV (s.take (n + 1)) = lowV (s.take n) + c.toNat % 128 * 128 ^ n := by
    rw [List.take_succ_eq_append_getElem hlt, hcv, lowV_snoc, hl]
  have h1 : varE s 0 0 = varE (c :: s.drop (n + 1)) n (lowV (s.take n)) := by
    conv => lhs; rw [e]
    rw [varE_go _ _ _ _ hgo (by omega), hl, Nat.zero_add, Nat.zero_add, Nat.pow_zero, Nat.mul_one]
  have h2 : varE (c :: s.drop (n + 1)) n (lowV (s.take n)) = if n = 9 ∧ 1 < c.toNat then (0, 0, 3) else if 128 ≤ c.toNat then varE (s.drop (n + 1)) (n + 1) (lowV (s.take n) + c.toNat % 128 * 128 ^ n) else if c.toNat = 0 ∧ 0 < n then (0, 0, 3) else (lowV (s.take n) + c.toNat % 128 * 128 ^ n, n + 1, 0) := rfl
  rw [h1, h2, hlow]
  by_cases c1 : n = 9 ∧ 1 < c.toNat
  · rw [if_pos c1, if_pos (.inl c1)]
  · rw [if_neg c1]
    have : ¬ 128 ≤ c.toNat := by rcases hst with h | h <;> omega
    rw [if_neg this]
    by_cases c2 : c.toNat = 0 ∧ 0 < n
    · rw [if_pos c2, if_pos (.inr ⟨c2.2, c2.1⟩)]
    · rw [if_neg c2, if_neg (by rintro (h | h); exact c1 h; exact c2 ⟨h.2, h.1⟩)]
theorem rvarE_short {s : List UInt8} (hn : s.length ≤ 9) (hgo : ∀ c ∈ s, 128 ≤ c.toNat) : varE s 0 0 = (0, 0, 2) := by
  have h := varE_go s [] 0 0 hgo (by omega)
  rw [List.append_nil] at h
  rw [h]
  rfl
def varV0 (r : Nat × Nat × Int) : Value := .tuple #[.int .u64 (r.1 : Int), .int .i64 (r.2.1 : Int), .int .i64 r.2.2]
theorem low_rem (c : UInt8) : IntKind.u8.wrap ((c.toNat : Int) % 128) = (c.toNat : Int) % 128 := by
  have := c.toNat_lt
  rw [IntWalk.u8_in _ (by omega)]
theorem low_step {V : Nat} {c : UInt8} (h : c.toNat % 128 + 128 * V < 18446744073709551616) : IntKind.u64.wrap (IntKind.u64.wrap (128 * (V : Int)) + IntKind.u64.wrap ((c.toNat : Int) % 128)) = ((c.toNat % 128 + 128 * V : Nat) : Int) := by
  have := c.toNat_lt
  simp only [IntKind.wrap_u64]
  omega
set_option maxHeartbeats 16000000 in
set_option maxRecDepth 100000 in
theorem rread_c (s : List UInt8) (w0 : World) (hl : s.length ≤ 1099511627776) : Cal Tryz.prog 185 [str s] w0 (fun v w' => Upd [] w0 w' ∧ v = varV0 (varE s 0 0)) := by
  refine Cal.mk' (by kernel_rfl) Tryz.func185 rfl rfl fun hS => ?_
  generalize hRES : varE s 0 0 = RES
  repeat' (first
    | (show WL _ _ _ _ _ _ _; first
      | refine WL.pure rfl rfl rfl rfl ?_
      | refine WL.nil ?_)
    | (show WC _ _ _ _ _ _; first
      | (show WC _ _ (Code.seq (Code.block 0 _) _) _ _ _; refine WC.cutS (σ := Nat) [0] (fun n => [(5, .int .i64 (n : Int))]) (fun n w => n ≤ 9 ∧ n ≤ s.length ∧ (∀ c ∈ s.take n, 128 ≤ c.toNat) ∧ (∀ c, s[n]? = some c → c.toNat < 128 ∨ n = 9) ∧ St w0 [] w [] [⟨w0, Old w0⟩]) ?_ ?_)
      | refine WC.seq ?_
      | refine WC.region ?_
      | refine WC.block ?_)
    | refine seqQ_n ?_)
  · refine WC.loop (σ := Nat) [0] (fun n => [(5, .int .i64 (n : Int))]) (fun n w => n ≤ 9 ∧ n ≤ s.length ∧ (∀ c ∈ s.take n, 128 ≤ c.toNat) ∧ St w0 [] w [] [⟨w0, Old w0⟩]) (fun n => 9 - n) 0 ⟨Nat.zero_le _, Nat.zero_le _, fun c hc => by simp at hc, hS⟩ ⟨rfl, trivial⟩ ?_
    clear hS
    rintro n g w ⟨hn, hns, Hgo, hS⟩
    obtain ⟨Hg, -⟩ : ∃ h : (∀ c ∈ s.take n, 128 ≤ c.toNat), h = Hgo := ⟨_, rfl⟩
    clear Hgo
    by_cases hlt : n < s.length
    · have hc : s[n]? = some s[n] := List.getElem?_eq_getElem hlt
      have hnext : 128 ≤ s[n].toNat → ∀ c ∈ s.take (n + 1), 128 ≤ c.toNat := fun h c hcm => by
        rw [List.take_succ_eq_append_getElem hlt] at hcm
        rcases List.mem_append.1 hcm with h1 | h1
        · exact Hg c h1
        · simp at h1; rw [h1]; exact h
      generalize s[n] = c0 at *
      by_cases h9 : n < 9
      · by_cases h128 : 128 ≤ c0.toNat
        · have hnext := hnext h128
          have hi8 : (128 : Int) ≤ (c0.toNat : Int) := by omega
          clear Hg
          repeat' (first
            | (show WL _ _ _ _ _ _ _; first
              | refine WL.pure rfl rfl rfl rfl ?_
              | refine WL.nil ?_
              | refine WL.add rfl rfl rfl (by omega) rfl rfl rfl ?_
              | refine WL.idxS rfl rfl rfl rfl (by with_reducible assumption) rfl rfl rfl ?_
              | ((fail_if_success (refine WL.wanted rfl ?_)); refine WL.guard rfl rfl rfl (fun h => ?_) (fun h => ?_) <;> (try simp only [Classical.not_not, Bool.not_eq_true', Bool.not_eq_false', Bool.not_eq_eq_eq_not, Bool.not_true, Bool.not_false, beq_iff_eq, beq_eq_false_iff_ne, ne_eq, decide_eq_decide, decide_eq_true_eq, decide_eq_false_iff_not, Bool.and_eq_true, Bool.or_eq_true, Bool.and_eq_false_iff, Bool.or_eq_false_iff] at h) <;> (try (exfalso; first | omega | contradiction))))
            | (show WC _ _ _ _ _ _; first
              | refine WC.seq ?_
              | refine WC.region ?_
              | refine WC.block ?_
              | refine WC.skip ?_
              | refine WC.condT rfl (decide_eq_true (by first | with_reducible assumption | omega)) ?_)
            | refine seqQ_n ?_
            | refine blkQ_n ?_)
          exact rndQ_n (n + 1) ⟨by omega, by omega, hnext, hS⟩ (by omega) ⟨vint (by omega), trivial⟩ ⟨rfl, trivial⟩
        · have hi8 : ¬ (128 : Int) ≤ (c0.toNat : Int) := by omega
          have hend : ∀ c, s[n]? = some c → c.toNat < 128 ∨ n = 9 := fun c h => by rw [hc] at h; cases h; exact .inl (by omega)
          obtain ⟨He, -⟩ : ∃ h : (∀ c, s[n]? = some c → c.toNat < 128 ∨ n = 9), h = hend := ⟨_, rfl⟩
          clear hend hnext
          repeat' (first
            | (show WL _ _ _ _ _ _ _; first
              | refine WL.pure rfl rfl rfl rfl ?_
              | refine WL.nil ?_
              | refine WL.idxS rfl rfl rfl rfl (by with_reducible assumption) rfl rfl rfl ?_
              | refine WL.skip rfl rfl rfl ?_
              | ((fail_if_success (refine WL.wanted rfl ?_)); refine WL.guard rfl rfl rfl (fun h => ?_) (fun h => ?_) <;> (try simp only [Classical.not_not, Bool.not_eq_true', Bool.not_eq_false', Bool.not_eq_eq_eq_not, Bool.not_true, Bool.not_false, beq_iff_eq, beq_eq_false_iff_ne, ne_eq, decide_eq_decide, decide_eq_true_eq, decide_eq_false_iff_not, Bool.and_eq_true, Bool.or_eq_true, Bool.and_eq_false_iff, Bool.or_eq_false_iff] at h) <;> (try (exfalso; first | omega | contradiction))))
            | (show WC _ _ _ _ _ _; first
              | refine WC.seq ?_
              | refine WC.region ?_
              | refine WC.exit ?_
              | refine WC.condF rfl (by with_reducible rfl) ?_)
            | refine seqQ_n ?_
            | refine seqQ_x ?_
            | refine blkQ_hit rfl ?_
            | refine rndQ_x ?_)
          exact endQ_n n ⟨hn, hns, Hg, He, hS⟩ ⟨rfl, trivial⟩ ⟨rfl, trivial⟩
      · have He : ∀ c, s[n]? = some c → c.toNat < 128 ∨ n = 9 := fun c h => .inr (by omega)
        clear hnext
        have hn9 : ¬ (n : Int) < 9 := by omega
        repeat' (first
          | (show WL _ _ _ _ _ _ _; first
            | refine WL.pure rfl rfl rfl rfl ?_
            | refine WL.nil ?_
            | refine WL.idxS rfl rfl rfl rfl (by with_reducible assumption) rfl rfl rfl ?_
            | refine WL.skip rfl rfl rfl ?_
            | ((fail_if_success (refine WL.wanted rfl ?_)); refine WL.guard rfl rfl rfl (fun h => ?_) (fun h => ?_) <;> (try simp only [Classical.not_not, Bool.not_eq_true', Bool.not_eq_false', Bool.not_eq_eq_eq_not, Bool.not_true, Bool.not_false, beq_iff_eq, beq_eq_false_iff_ne, ne_eq, decide_eq_decide, decide_eq_true_eq, decide_eq_false_iff_not, Bool.and_eq_true, Bool.or_eq_true, Bool.and_eq_false_iff, Bool.or_eq_false_iff] at h) <;> (try (exfalso; first | omega | contradiction))))
          | (show WC _ _ _ _ _ _; first
            | refine WC.seq ?_
            | refine WC.region ?_
            | refine WC.exit ?_
            | refine WC.condF rfl (by with_reducible rfl) ?_
            | refine WC.condF rfl (decide_eq_false (by first | with_reducible assumption | omega)) ?_)
          | refine seqQ_n ?_
          | refine seqQ_x ?_
          | refine blkQ_hit rfl ?_
          | refine rndQ_x ?_)
        all_goals exact endQ_n n ⟨hn, hns, Hg, He, hS⟩ ⟨rfl, trivial⟩ ⟨rfl, trivial⟩
    · have He : ∀ c, s[n]? = some c → c.toNat < 128 ∨ n = 9 := fun c h => by rw [List.getElem?_eq_none (by omega)] at h; cases h
      repeat' (first
        | (show WL _ _ _ _ _ _ _; first
          | refine WL.pure rfl rfl rfl rfl ?_
          | refine WL.nil ?_
          | refine WL.skip rfl rfl rfl ?_
          | ((fail_if_success (refine WL.wanted rfl ?_)); refine WL.guard rfl rfl rfl (fun h => ?_) (fun h => ?_) <;> (try simp only [Classical.not_not, Bool.not_eq_true', Bool.not_eq_false', Bool.not_eq_eq_eq_not, Bool.not_true, Bool.not_false, beq_iff_eq, beq_eq_false_iff_ne, ne_eq, decide_eq_decide, decide_eq_true_eq, decide_eq_false_iff_not, Bool.and_eq_true, Bool.or_eq_true, Bool.and_eq_false_iff, Bool.or_eq_false_iff] at h) <;> (try (exfalso; first | omega | contradiction))))
        | (show WC _ _ _ _ _ _; first
          | refine WC.seq ?_
          | refine WC.region ?_
          | refine WC.exit ?_
          | refine WC.condF rfl (by with_reducible rfl) ?_)
        | refine seqQ_n ?_
        | refine seqQ_x ?_
        | refine blkQ_hit rfl ?_
        | refine rndQ_x ?_)
      exact endQ_n n ⟨hn, hns, Hg, He, hS⟩ ⟨rfl, trivial⟩ ⟨rfl, trivial⟩
  · rintro n g w ⟨hn, hns, Hg, He, hS⟩
    by_cases hlt : n < s.length
    rotate_left
    · have hne : n = s.length := by omega
      subst hne
      rw [List.take_length] at Hg
      rw [rvarE_short (by omega) Hg] at hRES
      subst hRES
      clear Hg He
      repeat' (first
        | (show WL _ _ _ _ _ _ _; first
          | refine WL.pure rfl rfl rfl rfl ?_
          | refine WL.nil ?_)
        | (show WC _ _ _ _ _ _; first
          | refine WC.seq ?_
          | refine WC.region ?_
          | refine WC.ret ?_
          | refine WC.condT rfl (decide_eq_true (by first | with_reducible assumption | omega)) ?_)
        | refine seqQ_n ?_
        | refine seqQ_r ?_)
      exact fin3r rfl rfl rfl rfl ⟨hS.upd, rfl⟩
    have hc : s[n]? = some s[n] := List.getElem?_eq_getElem hlt
    have hE := varE_end hn Hg hc (He _ hc)
    rw [hRES] at hE
    have hst := He _ hc
    have h9c : n = 9 → s[9]? = some s[n] := fun h => by rw [← hc, h]
    have hb : ¬ (n = 9 ∧ 1 < s[n].toNat) → ∀ i, lowV ((s.take (n + 1)).drop i) < 18446744073709551616 := fun hno i => by
      refine lowV_bound (by rw [List.length_drop, List.length_take]; omega) fun c h => ?_
      rw [List.getElem?_drop] at h
      have hi : i + 9 < (s.take (n + 1)).length := (List.getElem?_eq_some_iff.1 h).1
      rw [List.length_take] at hi
      have hi0 : i = 0 := by omega
      have hn9 : n = 9 := by omega
      subst hi0
      rw [Nat.zero_add, List.getElem?_take_of_lt (by omega), h9c hn9] at h
      cases h
      omega
    generalize hc0 : s[n] = c0 at *
    clear Hg He hRES
    by_cases hf : n = 9 ∧ 1 < c0.toNat ∨ 0 < n ∧ c0.toNat = 0
    · rw [if_pos hf] at hE
      subst hE
      clear hb hst
      rcases hf with ⟨rfl, h1⟩ | ⟨h1, h2⟩
      · have h9c := h9c rfl
        have hi1 : (1 : Int) < (c0.toNat : Int) := by omega
        repeat' (first
          | (show WL _ _ _ _ _ _ _; first
            | refine WL.pure rfl rfl rfl rfl ?_
            | refine WL.nil ?_
            | refine WL.idxS (j := 9) rfl rfl rfl rfl h9c rfl rfl rfl ?_
            | refine WL.skip rfl rfl rfl ?_
            | ((fail_if_success (refine WL.wanted rfl ?_)); refine WL.guard rfl rfl rfl (fun h => ?_) (fun h => ?_) <;> (try simp only [Classical.not_not, Bool.not_eq_true', Bool.not_eq_false', Bool.not_eq_eq_eq_not, Bool.not_true, Bool.not_false, beq_iff_eq, beq_eq_false_iff_ne, ne_eq, decide_eq_decide, decide_eq_true_eq, decide_eq_false_iff_not, Bool.and_eq_true, Bool.or_eq_true, Bool.and_eq_false_iff, Bool.or_eq_false_iff] at h) <;> (try (exfalso; first | omega | contradiction))))
          | (show WC _ _ _ _ _ _; first
            | refine WC.seq ?_
            | refine WC.region ?_
            | refine WC.skip ?_
            | refine WC.ret ?_
            | refine WC.condT rfl (by with_reducible rfl) ?_
            | refine WC.condF rfl (decide_eq_false (by first | with_reducible assumption | omega)) ?_)
          | refine seqQ_n ?_
          | refine seqQ_r ?_)
        exact fin3r rfl rfl rfl rfl ⟨hS.upd, rfl⟩
      · by_cases h9 : n = 9
        · subst h9
          have h9c := h9c rfl
          have hi1 : ¬ (1 : Int) < (c0.toNat : Int) := by omega
          have hi2 : (c0.toNat : Int) = 0 := by omega
          repeat' (first
            | (show WL _ _ _ _ _ _ _; first
              | refine WL.pure rfl rfl rfl rfl ?_
              | refine WL.nil ?_
              | refine WL.idxS (j := 9) rfl rfl rfl rfl h9c rfl rfl rfl ?_
              | ((fail_if_success (refine WL.wanted rfl ?_)); refine WL.guard rfl rfl rfl (fun h => ?_) (fun h => ?_) <;> (try simp only [Classical.not_not, Bool.not_eq_true', Bool.not_eq_false', Bool.not_eq_eq_eq_not, Bool.not_true, Bool.not_false, beq_iff_eq, beq_eq_false_iff_ne, ne_eq, decide_eq_decide, decide_eq_true_eq, decide_eq_false_iff_not, Bool.and_eq_true, Bool.or_eq_true, Bool.and_eq_false_iff, Bool.or_eq_false_iff] at h) <;> (try (exfalso; first | omega | contradiction))))
            | (show WC _ _ _ _ _ _; first
              | refine WC.seq ?_
              | refine WC.region ?_
              | refine WC.skip ?_
              | refine WC.ret ?_
              | refine WC.condT rfl (decide_eq_true (by first | with_reducible assumption | omega)) ?_
              | refine WC.condF rfl (decide_eq_false (by first | with_reducible assumption | omega)) ?_)
            | refine seqQ_n ?_
            | refine seqQ_r ?_)
          exact fin3r rfl rfl rfl rfl ⟨hS.upd, rfl⟩
        · have hi2 : (c0.toNat : Int) = 0 := by omega
          have hn9 : ¬ (n : Int) = 9 := by omega
          clear h9c
          repeat' (first
            | (show WL _ _ _ _ _ _ _; first
              | refine WL.pure rfl rfl rfl rfl ?_
              | refine WL.nil ?_
              | refine WL.idxS rfl rfl rfl rfl (by with_reducible assumption) rfl rfl rfl ?_
              | refine WL.skip rfl rfl rfl ?_
              | ((fail_if_success (refine WL.wanted rfl ?_)); refine WL.guard rfl rfl rfl (fun h => ?_) (fun h => ?_) <;> (try simp only [Classical.not_not, Bool.not_eq_true', Bool.not_eq_false', Bool.not_eq_eq_eq_not, Bool.not_true, Bool.not_false, beq_iff_eq, beq_eq_false_iff_ne, ne_eq, decide_eq_decide, decide_eq_true_eq, decide_eq_false_iff_not, Bool.and_eq_true, Bool.or_eq_true, Bool.and_eq_false_iff, Bool.or_eq_false_iff] at h) <;> (try (exfalso; first | omega | contradiction))))
            | (show WC _ _ _ _ _ _; first
              | refine WC.seq ?_
              | refine WC.region ?_
              | refine WC.skip ?_
              | refine WC.ret ?_
              | refine WC.condT rfl (decide_eq_true (by first | with_reducible assumption | omega)) ?_
              | refine WC.condF rfl (decide_eq_false (by first | with_reducible assumption | omega)) ?_)
            | refine seqQ_n ?_
            | refine seqQ_r ?_)
          exact fin3r rfl rfl rfl rfl ⟨hS.upd, rfl⟩
    · rw [if_neg hf] at hE
      subst hE
      have hb := hb (fun h => hf (.inl h))
      have hnf : (n = 9 → ¬ 1 < c0.toNat) ∧ (0 < n → ¬ c0.toNat = 0) := ⟨fun h1 h2 => hf (.inl ⟨h1, h2⟩), fun h1 h2 => hf (.inr ⟨h1, h2⟩)⟩
      clear hst hf h9c
      have hL : ∀ m, m < n + 1 → ∃ c, s[m]? = some c ∧ (s.take (n + 1)).drop m = c :: (s.take (n + 1)).drop (m + 1) := fun m hm => by
        have hml : m < (s.take (n + 1)).length := by rw [List.length_take]; omega
        refine ⟨s[m]'(by omega), List.getElem?_eq_getElem (by omega), ?_⟩
        rw [List.drop_eq_getElem_cons hml, List.getElem_take]
      have hz : lowV ((s.take (n + 1)).drop (n + 1)) = 0 := by rw [List.drop_of_length_le (by rw [List.length_take]; omega)]; rfl
      have h0 : lowV ((s.take (n + 1)).drop 0) = lowV (s.take (n + 1)) := rfl
      generalize s.take (n + 1) = L at *
      have hfin : ∀ (V : Nat), lowV (L.drop 0) = V → varV0 (V, n + 1, 0) = .tuple #[.int .u64 ((lowV (L.drop 0) : Nat) : Int), .int .i64 ((n : Int) + 1), .int .i64 0] := fun V h => by rw [h]; rfl
      rw [hfin _ h0]
      clear hfin h0
      have hcn : (n = 9 → ¬ (1 : Int) < (c0.toNat : Int)) ∧ (0 < n → ¬ (c0.toNat : Int) = 0) := ⟨fun h1 => by have := hnf.1 h1; omega, fun h1 => by have := hnf.2 h1; omega⟩
      clear hnf
      obtain ⟨HL, -⟩ : ∃ h : (∀ m, m < n + 1 → ∃ c, s[m]? = some c ∧ L.drop m = c :: L.drop (m + 1)), h = hL := ⟨_, rfl⟩
      obtain ⟨HB, -⟩ : ∃ h : (∀ i, lowV (L.drop i) < 18446744073709551616), h = hb := ⟨_, rfl⟩
      clear hL hb
      have hcase : n = 9 ∧ ¬ (1 : Int) < (c0.toNat : Int) ∧ ¬ (c0.toNat : Int) = 0 ∨ ¬ (n : Int) = 9 ∧ 0 < n ∧ ¬ (c0.toNat : Int) = 0 ∨ n = 0 := by
        by_cases h9 : n = 9
        · exact .inl ⟨h9, hcn.1 h9, hcn.2 (by omega)⟩
        · by_cases hz0 : n = 0
          · exact .inr (.inr hz0)
          · exact .inr (.inl ⟨by omega, by omega, hcn.2 (by omega)⟩)
      clear hcn
      rcases hcase with ⟨rfl, hi1, hi2⟩ | ⟨hi9, hi0, hi2⟩ | rfl
      all_goals
        repeat' (first
          | (show WL _ _ _ _ _ _ _; first
            | refine WL.pure rfl rfl rfl rfl ?_
            | refine WL.nil ?_
            | refine WL.idxS (j := 9) rfl rfl rfl rfl hc rfl rfl rfl ?_
            | refine WL.idxS rfl rfl rfl rfl (by with_reducible assumption) rfl rfl rfl ?_
            | refine WL.skip rfl rfl rfl ?_
            | ((fail_if_success (refine WL.wanted rfl ?_)); refine WL.guard rfl rfl rfl (fun h => ?_) (fun h => ?_) <;> (try simp only [Classical.not_not, Bool.not_eq_true', Bool.not_eq_false', Bool.not_eq_eq_eq_not, Bool.not_true, Bool.not_false, beq_iff_eq, beq_eq_false_iff_ne, ne_eq, decide_eq_decide, decide_eq_true_eq, decide_eq_false_iff_not, Bool.and_eq_true, Bool.or_eq_true, Bool.and_eq_false_iff, Bool.or_eq_false_iff] at h) <;> (try (exfalso; first | omega | contradiction))))
          | (show WC _ _ _ _ _ _; first
            | refine WC.seq ?_
            | refine WC.region ?_
            | refine WC.block ?_
            | refine WC.skip ?_
            | refine WC.condF rfl (by with_reducible rfl) ?_
            | refine WC.condF rfl (decide_eq_false (by first | with_reducible assumption | omega)) ?_)
          | refine seqQ_n ?_)
      all_goals
        refine WC.loop (σ := Nat) [0, 5] (fun k => [(6, .int .u64 ((lowV (L.drop k) : Nat) : Int)), (7, .int .i64 ((k : Int) - 1))]) (fun k w => k ≤ _ + 1 ∧ St w0 [] w [] [⟨w0, Old w0⟩]) (fun k => k) _ ⟨Nat.le_refl _, hS⟩ ⟨by rw [hz]; rfl, vint (by omega), trivial⟩ ?_
        clear hS hc
        rintro k g w ⟨hk, hS⟩
        rcases k with _ | m
        · clear HL HB
          repeat' (first
            | (show WL _ _ _ _ _ _ _; first
              | refine WL.pure rfl rfl rfl rfl ?_
              | refine WL.nil ?_
              | refine WL.add rfl rfl rfl (by omega) rfl rfl rfl ?_)
            | (show WC _ _ _ _ _ _; first
              | refine WC.seq ?_
              | refine WC.region ?_
              | refine WC.exit ?_
              | refine WC.ret ?_
              | refine WC.condF rfl (by decide) ?_)
            | refine seqQ_n ?_
            | refine seqQ_x ?_
            | refine blkQ_hit rfl ?_
            | refine rndQ_x ?_)
          exact fin3r rfl rfl rfl rfl ⟨hS.upd, rfl⟩
        · obtain ⟨c, hc, hdr⟩ := HL m (by omega)
          have hbm := HB m
          rw [hdr] at hbm
          have hstep := low_step (V := lowV (L.drop (m + 1))) (c := c) hbm
          have hlw : lowV (L.drop m) = c.toNat % 128 + 128 * lowV (L.drop (m + 1)) := by rw [hdr]; rfl
          have hrem := low_rem c
          clear HL HB hdr hbm
          generalize lowV (L.drop (m + 1)) = V at *
          repeat' (first
            | (show WL _ _ _ _ _ _ _; first
              | refine WL.pure rfl rfl rfl rfl ?_
              | refine WL.nil ?_
              | refine WL.sub rfl rfl rfl (by omega) rfl rfl rfl ?_
              | refine WL.idxS (j := m) rfl rfl rfl (congrArg (Value.int .i64) (pred_ofNat m)) hc rfl rfl rfl ?_
              | (refine WL.remK rfl rfl rfl (by omega) (by omega) hrem rfl rfl rfl ?_))
            | (show WC _ _ _ _ _ _; first
              | refine WC.seq ?_
              | refine WC.region ?_
              | refine WC.block ?_
              | refine WC.skip ?_
              | refine WC.condT rfl (decide_eq_true (by first | with_reducible assumption | omega)) ?_)
            | refine seqQ_n ?_
            | refine blkQ_n ?_)
          exact rndQ_n m ⟨by omega, hS⟩ (by omega) ⟨by rw [hlw, ← hstep]; rfl, vint (by omega), trivial⟩ ⟨rfl, rfl, trivial⟩
def uintV0 (r : Nat × Nat × Int) : Value := .tuple #[.int .i64 (r.1 : Int), .int .i64 (r.2.1 : Int), .int .i64 r.2.2]
theorem varE_zero (s : List UInt8) (h : (varE s 0 0).2.2 ≠ 0) : varE s 0 0 = (0, 0, (varE s 0 0).2.2) := by
  have key : ∀ (t : List UInt8) (i x : Nat), (varE t i x).2.2 ≠ 0 → varE t i x = (0, 0, (varE t i x).2.2) := by
    intro t
    induction t with
    | nil => intro i x _; rfl
    | cons c t ih =>
      intro i x h
      unfold varE at h ⊢
      split
      · rfl
      · rename_i h1
        rw [if_neg h1] at h
        split
        · rename_i h2
          rw [if_pos h2] at h
          exact ih _ _ h
        · rename_i h2
          rw [if_neg h2] at h
          split
          · rfl
          · rename_i h3
            rw [if_neg h3] at h
            exact absurd rfl h
  exact key s 0 0 h
set_option maxHeartbeats 4000000 in
set_option maxRecDepth 100000 in
theorem ruint_c (s : List UInt8) (w0 : World) (hl : s.length ≤ 1099511627776) : Cal Tryz.prog 152 [str s] w0 (fun v w' => Upd [] w0 w' ∧ v = uintV0 (uintE s)) := by
  refine Cal.mk' (by kernel_rfl) Tryz.func152 rfl rfl fun hS => ?_
  have hr := fun w0 => rread_c s w0 hl
  have hz := varE_zero s
  unfold uintE
  unfold varV0 at hr
  have hlt : (varE s 0 0).2.2 = 0 → (varE s 0 0).1 < 18446744073709551616 := fun h => (varE_ok s 0 0 (by simp) (by omega) h).1
  generalize varE s 0 0 = r at *
  obtain ⟨x, n, e⟩ := r
  dsimp only at hr hz hlt ⊢
  by_cases he : e = 0
  · subst he
    have hlt := hlt rfl
    rw [if_pos rfl]
    clear hz
    by_cases h63 : x < 9223372036854775808
    · rw [if_pos h63]
      repeat' (first
        | (show WL _ _ _ _ _ _ _; first
          | refine WL.pure rfl rfl rfl rfl ?_
          | refine WL.nil ?_
          | (refine WL.calls hS rfl rfl (hr _) rfl rfl rfl ?_; rintro v w rfl hS)
          | refine WL.conv64 rfl rfl rfl (by omega) rfl rfl rfl ?_)
        | (show WC _ _ _ _ _ _; first
          | refine WC.seq ?_
          | refine WC.region ?_
          | refine WC.skip ?_
          | refine WC.ret ?_
          | refine WC.condF rfl (decide_eq_false (by first | with_reducible assumption | omega)) ?_)
        | refine seqQ_n ?_)
      exact fin3r rfl rfl rfl rfl ⟨hS.upd, rfl⟩
    · rw [if_neg h63]
      repeat' (first
        | (show WL _ _ _ _ _ _ _; first
          | refine WL.pure rfl rfl rfl rfl ?_
          | refine WL.nil ?_
          | (refine WL.calls hS rfl rfl (hr _) rfl rfl rfl ?_; rintro v w rfl hS))
        | (show WC _ _ _ _ _ _; first
          | refine WC.seq ?_
          | refine WC.region ?_
          | refine WC.ret ?_
          | refine WC.condT rfl (decide_eq_true (by first | with_reducible assumption | omega)) ?_)
        | refine seqQ_n ?_
        | refine seqQ_r ?_)
      exact fin3r rfl rfl rfl rfl ⟨hS.upd, rfl⟩
  · rw [if_neg he]
    have hz := hz he
    simp only [Prod.mk.injEq, and_true] at hz
    obtain ⟨rfl, rfl⟩ := hz
    clear hlt
    repeat' (first
      | (show WL _ _ _ _ _ _ _; first
        | refine WL.pure rfl rfl rfl rfl ?_
        | refine WL.nil ?_
        | (refine WL.calls hS rfl rfl (hr _) rfl rfl rfl ?_; rintro v w rfl hS)
        | refine WL.conv64 rfl rfl rfl (by omega) rfl rfl rfl ?_
        | refine WL.skip rfl rfl rfl ?_
        | ((fail_if_success (refine WL.wanted rfl ?_)); refine WL.guard rfl rfl rfl (fun h => ?_) (fun h => ?_) <;> (try simp only [Classical.not_not, Bool.not_eq_true', Bool.not_eq_false', Bool.not_eq_eq_eq_not, Bool.not_true, Bool.not_false, beq_iff_eq, beq_eq_false_iff_ne, ne_eq, decide_eq_decide, decide_eq_true_eq, decide_eq_false_iff_not, Bool.and_eq_true, Bool.or_eq_true, Bool.and_eq_false_iff, Bool.or_eq_false_iff] at h) <;> (try (exfalso; first | omega | contradiction))))
      | (show WC _ _ _ _ _ _; first
        | refine WC.seq ?_
        | refine WC.region ?_
        | refine WC.skip ?_
        | refine WC.ret ?_
        | refine WC.condF rfl (by with_reducible rfl) ?_)
      | refine seqQ_n ?_)
    exact fin3r rfl rfl rfl rfl ⟨hS.upd, rfl⟩
def rtextV0 (r : List UInt8 × Nat × Int) : Value := .tuple #[str r.1, .int .i64 (r.2.1 : Int), .int .i64 r.2.2]
set_option maxHeartbeats 4000000 in
set_option maxRecDepth 100000 in
theorem rrtext_c (s : List UInt8) (w0 : World) (hl : s.length ≤ 1099511627776) : Cal Tryz.prog 151 [str s] w0 (fun v w' => Upd [] w0 w' ∧ v = rtextV0 (rtextE s)) := by
  refine Cal.mk' (by kernel_rfl) Tryz.func151 rfl rfl fun hS => ?_
  have hr := fun w0 => ruint_c s w0 hl
  have hok := uintE_ok s
  unfold rtextE
  unfold uintV0 at hr
  generalize uintE s = r at *
  obtain ⟨x, n, e⟩ := r
  dsimp only at hr hok ⊢
  by_cases he : e = 0
  · subst he
    obtain ⟨hx, hn⟩ := hok rfl
    clear hok
    rw [if_pos rfl]
    by_cases hle : x + n ≤ s.length
    · rw [if_pos hle]
      have hcut : (s.take (n + x)).drop n = (s.drop n).take x := by rw [List.drop_take]; congr 1; omega
      repeat' (first
        | (show WL _ _ _ _ _ _ _; first
          | refine WL.pure rfl rfl rfl rfl ?_
          | refine WL.nil ?_
          | refine WL.add rfl rfl rfl (by omega) rfl rfl rfl ?_
          | refine WL.sub rfl rfl rfl (by omega) rfl rfl rfl ?_
          | (refine WL.calls hS rfl rfl (hr _) rfl rfl rfl ?_; rintro v w rfl hS)
          | (refine WL.midS (i := n) (j := n + x) rfl rfl rfl rfl rfl (by omega) (by omega) rfl rfl rfl ?_; rw [hcut]))
        | (show WC _ _ _ _ _ _; first
          | refine WC.seq ?_
          | refine WC.region ?_
          | refine WC.skip ?_
          | refine WC.ret ?_
          | refine WC.condF rfl (by decide) ?_
          | refine WC.condF rfl (decide_eq_false (by first | with_reducible assumption | omega)) ?_)
        | refine seqQ_n ?_)
      exact fin3r rfl rfl rfl rfl ⟨hS.upd, by unfold rtextV0; rw [show ((n : Int) + (x : Int)) = ((x + n : Nat) : Int) by omega]⟩
    · rw [if_neg hle]
      repeat' (first
        | (show WL _ _ _ _ _ _ _; first
          | refine WL.pure rfl rfl rfl rfl ?_
          | refine WL.nil ?_
          | refine WL.sub rfl rfl rfl (by omega) rfl rfl rfl ?_
          | (refine WL.calls hS rfl rfl (hr _) rfl rfl rfl ?_; rintro v w rfl hS))
        | (show WC _ _ _ _ _ _; first
          | refine WC.seq ?_
          | refine WC.region ?_
          | refine WC.skip ?_
          | refine WC.ret ?_
          | refine WC.condF rfl (by decide) ?_
          | refine WC.condT rfl (decide_eq_true (by first | with_reducible assumption | omega)) ?_)
        | refine seqQ_n ?_
        | refine seqQ_r ?_)
      exact fin3r rfl rfl rfl rfl ⟨hS.upd, rfl⟩
  · rw [if_neg he]
    clear hok
    repeat' (first
      | (show WL _ _ _ _ _ _ _; first
        | refine WL.pure rfl rfl rfl rfl ?_
        | refine WL.nil ?_
        | (refine WL.calls hS rfl rfl (hr _) rfl rfl rfl ?_; rintro v w rfl hS))
      | (show WC _ _ _ _ _ _; first
        | refine WC.seq ?_
        | refine WC.region ?_
        | refine WC.ret ?_
        | refine WC.condT rfl (decide_eq_true (by first | with_reducible assumption | omega)) ?_)
      | refine seqQ_n ?_
      | refine seqQ_r ?_)
    exact fin3r rfl rfl rfl rfl ⟨hS.upd, rfl⟩
end Go.Proofs.YtccfiohagbneaaaGreatDoor

/- What is proved: what the reference's frames are, written, read and looked through. Conditions: texts of bounded length. -/
set_option linter.unusedSimpArgs false
set_option linter.unusedVariables false
namespace Go.Proofs.YtccfiohagbneaaaGreatDoor
open Go Go.J Go.RowKit
def leK : Nat → Nat → List UInt8
  | 0, _ => []
  | k + 1, c => UInt8.ofNat (c % 256) :: leK k (c / 256)
theorem leK_four (n : Nat) : leK 4 n = le4 n := by
  have e1 : n / 256 / 256 = n / 65536 := by rw [Nat.div_div_eq_div_mul]
  have e2 : n / 65536 / 256 = n / 16777216 := by rw [Nat.div_div_eq_div_mul]
  simp only [leK, le4, e1, e2]
theorem byteC_snoc (bs : List UInt8) (c : Nat) : byteC bs ++ [.int .u8 (IntKind.u8.wrap ((c : Int) % 256))] = byteC (bs ++ [UInt8.ofNat (c % 256)]) := by
  have e : IntKind.u8.wrap ((c : Int) % 256) = (((UInt8.ofNat (c % 256)).toNat : Nat) : Int) := by rw [Go.J.ofNat_toNat (by omega), IntKind.wrap_u8]; omega
  rw [e]
  simp [byteC]
set_option maxHeartbeats 8000000 in
set_option maxRecDepth 100000 in
theorem rpack_c (s : List UInt8) (w0 : World) (hl : s.length ≤ 1099511627776) : Cal Tryz.prog 73 [str s] w0 (fun v w' => Upd [] w0 w' ∧ v = str (packE s)) := by
  refine Cal.mk' (by kernel_rfl) Tryz.func73 rfl rfl fun hS => ?_
  have hlt := sumE_lt s
  have hk4 := leK_four (sumE s)
  have hp := putN_len10 (n := s.length) (by omega)
  have htl : (textE s).length = (putN s.length).length + s.length := by unfold textE; simp
  have hl4 : (le4 (sumE s)).length = 4 := rfl
  have hpk : textE s ++ le4 (sumE s) = packE s := rfl
  generalize le4 (sumE s) = b4 at *
  repeat' (first
    | (show WL _ _ _ _ _ _ _; first
      | refine WL.pure rfl rfl rfl rfl ?_
      | refine WL.nil ?_
      | (refine WL.calls hS rfl rfl (rsum_c s _ (by omega)) rfl rfl rfl ?_; rintro v w rfl hS))
    | (show WC _ _ _ _ _ _; first
      | refine WC.seq ?_
      | refine WC.region ?_
      | refine WC.block ?_)
    | refine seqQ_n ?_)
  generalize sumE s = n at *
  have hS := hS.nilRow 5 1
  refine WC.loop (σ := Nat × Nat × List UInt8 × Option Addr × Nat) [0] (fun (i, c, bs, B, cp) => [(3, .int .u32 (c : Int)), (4, .slice B i cp), (5, .int .i64 (i : Int))])
    (fun (i, c, bs, B, cp) w => (i ≤ 4 ∧ c < 4294967296 ∧ bs ++ leK (4 - i) c = b4) ∧ St w0 [] w [.own (.slice B i cp) 5 1 i (byteC bs)] [⟨w0, Old w0⟩]) (fun (i, _) => 4 - i) (0, n, [], none, 0) ⟨⟨Nat.zero_le _, hlt, hk4⟩, hS⟩ ⟨rfl, rfl, rfl, trivial⟩ ?_
  clear hS hlt hk4
  rintro ⟨i, c, bs, B, cp⟩ g w ⟨⟨hi, hc, hbs⟩, hS⟩
  show WC _ _ _ (lf _ [(3, .int .u32 (c : Int)), (4, .slice B i cp), (5, .int .i64 (i : Int))] _ _) _ _
  by_cases hlt : i < 4
  · have hw1 : IntKind.u32.wrap ((c : Int) % 256) = (c : Int) % 256 := by rw [IntKind.wrap_u32]; omega
    have hw2 : IntKind.u32.wrap ((c : Int) / 256) = (c : Int) / 256 := by rw [IntKind.wrap_u32]; omega
    have hq : (c : Int) / 256 = ((c / 256 : Nat) : Int) := rfl
    have hnx : (bs ++ [UInt8.ofNat (c % 256)]) ++ leK (4 - (i + 1)) (c / 256) = b4 := by
      rw [← hbs, List.append_assoc, show 4 - i = 4 - (i + 1) + 1 by omega]
      rfl
    clear hbs
    repeat' (first
      | (show WL _ _ _ _ _ _ _; first
        | refine WL.pure rfl rfl rfl rfl ?_
        | refine WL.nil ?_
        | refine WL.add rfl rfl rfl (by omega) rfl rfl rfl ?_
        | (refine WL.remK rfl rfl rfl (by omega) (by omega) hw1 rfl rfl rfl ?_)
        | (refine WL.quoK rfl rfl rfl (by omega) (by omega) hw2 rfl rfl rfl ?_; rw [hq])
        | (refine WL.app (m := 1) hS rfl rfl rfl rfl (RdOk.box (by repeat (first | exact List.Mem.head _ | apply List.Mem.tail))) rfl rfl (fun A cap => by repeat (first | exact Repl.here | apply Repl.there)) (by omega) rfl rfl rfl ?_; intro A3 cap3 w hS)
        | (refine WL.slit hS rfl rfl rfl rfl rfl ?_; intro w b hS))
      | (show WC _ _ _ _ _ _; first
        | refine WC.seq ?_
        | refine WC.region ?_
        | refine WC.block ?_
        | refine WC.skip ?_
        | refine WC.condT rfl (decide_eq_true (by first | with_reducible assumption | omega)) ?_)
      | refine seqQ_n ?_
      | refine blkQ_n ?_)
    replace hS : St w0 _ w (_ :: .own (.slice A3 (i + 1) cap3) 5 1 (i + 1) (byteC bs ++ [.int .u8 (IntKind.u8.wrap ((c : Int) % 256))]) :: _) _ := hS
    rw [byteC_snoc] at hS
    exact rndQ_n (i + 1, c / 256, bs ++ [UInt8.ofNat (c % 256)], A3, cap3) ⟨⟨by omega, by omega, hnx⟩, hS.droplast2 (by repeat (first | exact Pulls.nil | (apply Pulls.cons; focus (repeat (first | exact Pull.here | apply Pull.there)))))⟩ (by show 4 - (i + 1) < 4 - i; omega) ⟨rfl, rfl, vint (by omega), trivial⟩ ⟨rfl, trivial⟩
  · have hie : i = 4 := by omega
    subst hie
    have hbs : bs = b4 := by simpa [leK] using hbs
    subst hbs
    repeat' (first
      | (show WL _ _ _ _ _ _ _; first
        | refine WL.pure rfl rfl rfl rfl ?_
        | refine WL.nil ?_)
      | (show WC _ _ _ _ _ _; first
        | refine WC.seq ?_
        | refine WC.region ?_
        | refine WC.exit ?_
        | refine WC.ret ?_
        | (show WC _ _ (Code.region _ (List.toArray [_, _, _, _, _, _]) true) _ _ _; refine WC.drawP hS [0,2,4,5] [0,2] (.two 1 [3,4,5] .nil 3 [1,4,5] .nil) (by kernel_rfl) (by kernel_rfl) ?_; clear hS; intro w hS hM)
        | refine WC.condF rfl (by decide) ?_)
      | (show WD _ _ _ _ _ _ _ _ _; first
        | refine WD.pure rfl rfl rfl rfl rfl ?_
        | refine WD.nil ?_
        | (refine WD.fork ?_ ?_)
        | (refine WD.calls hS hM rfl rfl (rtextw_c s _ (by omega)) rfl rfl rfl rfl rfl ?_; clear hS; rintro v w rfl hS)
        | (refine WD.b2s (s := bs) hS hM rfl rfl rfl rfl (by repeat (first | exact List.Mem.head _ | apply List.Mem.tail)) rfl rfl rfl rfl rfl rfl ?_)
        | (refine WD.cat rfl rfl rfl (by omega) rfl rfl rfl rfl ?_))
      | (refine WDo.calls hS hM rfl rfl (rtextw_c s _ (by omega)) rfl rfl rfl rfl ?_; clear hS; rintro v w rfl hS)
      | (refine WDo.b2s (s := bs) hS hM rfl rfl rfl rfl (by repeat (first | exact List.Mem.head _ | apply List.Mem.tail)) rfl rfl rfl rfl rfl ?_)
      | refine seqQ_n ?_
      | refine seqQ_x ?_
      | refine blkQ_hit rfl ?_
      | refine rndQ_x ?_)
    all_goals exact fin1r rfl rfl ⟨hS.upd, congrArg str hpk⟩
def frV0 (r : List UInt8 × Nat × Int) : Value := .tuple #[str r.1, .int .i64 (r.2.1 : Int), .int .i64 r.2.2]
set_option maxHeartbeats 8000000 in
set_option maxRecDepth 100000 in
theorem rfrd_c (s : List UInt8) (w0 : World) (hl : s.length ≤ 1099511627776) : Cal Tryz.prog 93 [str s] w0 (fun v w' => Upd [] w0 w' ∧ v = frV0 (readE s)) := by
  refine Cal.mk' (by kernel_rfl) Tryz.func93 rfl rfl fun hS => ?_
  have hrt := fun (w0 : World) => rrtext_c s w0 hl
  have hok := rtextE_le s
  unfold readE
  unfold rtextV0 at hrt
  generalize rtextE s = r at *
  obtain ⟨x, u, e⟩ := r
  dsimp only at hok hrt ⊢
  by_cases he : e = 0
  · subst he
    obtain ⟨hul, hxl⟩ := hok rfl
    clear hok
    rw [if_pos rfl]
    by_cases h4 : s.length < u + 4
    · rw [if_pos h4]
      repeat' (first
        | (show WL _ _ _ _ _ _ _; first
          | refine WL.pure rfl rfl rfl rfl ?_
          | refine WL.nil ?_
          | refine WL.sub rfl rfl rfl (by omega) rfl rfl rfl ?_
          | (refine WL.calls hS rfl rfl (hrt _) rfl rfl rfl ?_; rintro v w rfl hS))
        | (show WC _ _ _ _ _ _; first
          | refine WC.seq ?_
          | refine WC.region ?_
          | refine WC.skip ?_
          | refine WC.ret ?_
          | refine WC.condF rfl (by decide) ?_
          | refine WC.condT rfl (decide_eq_true (by first | with_reducible assumption | omega)) ?_)
        | refine seqQ_n ?_
        | refine seqQ_r ?_)
      exact fin3r rfl rfl rfl rfl ⟨hS.upd, rfl⟩
    · rw [if_neg h4]
      by_cases hpk : packE x = s.take (u + 4)
      case' pos => rw [if_pos hpk]
      case' neg => rw [if_neg hpk]; have hpk' : ¬ s.take (u + 4) = packE x := fun e => hpk e.symm
      all_goals
        repeat' (first
          | (show WL _ _ _ _ _ _ _; first
            | refine WL.pure rfl rfl rfl rfl ?_
            | refine WL.nil ?_
            | refine WL.add rfl rfl rfl (by omega) rfl rfl rfl ?_
            | refine WL.sub rfl rfl rfl (by omega) rfl rfl rfl ?_
            | (refine WL.calls hS rfl rfl (hrt _) rfl rfl rfl ?_; rintro v w rfl hS))
          | (show WC _ _ _ _ _ _; first
            | refine WC.seq ?_
            | refine WC.region ?_
            | refine WC.skip ?_
            | refine WC.ret ?_
            | (show WC _ _ (Code.region _ (List.toArray [_, _, _, _, _, _, _]) true) _ _ _; refine WC.drawS hS [0,1,2,3,4,6] [0,1,2,3,4,5,6] (by kernel_rfl) (by kernel_rfl) ?_; clear hS; intro w hS hM)
            | (refine WC.condT rfl (by first | (simp [hpk']; done) | fail) ?_)
            | (refine WC.condF rfl (by first | (simp [hpk]; done) | fail) ?_)
            | refine WC.condF rfl (decide_eq_false (by first | with_reducible assumption | omega)) ?_)
          | (show WD _ _ _ _ _ _ _ _ _; first
            | refine WD.pure rfl rfl rfl rfl rfl ?_
            | refine WD.nil ?_
            | refine WD.add rfl rfl rfl (by omega) rfl rfl rfl rfl ?_
            | (refine WD.highS (j := u + 4) rfl rfl rfl (by first | rfl | exact vint (show _ = ((u + 4 : Nat) : Int) by omega)) (by omega) rfl rfl rfl rfl ?_)
            | (refine WD.calls hS hM rfl rfl (rpack_c x _ (by omega)) rfl rfl rfl rfl rfl ?_; clear hS; rintro v w rfl hS))
          | refine seqQ_n ?_
          | refine seqQ_r ?_)
        exact fin3r rfl rfl rfl rfl ⟨hS.upd, rfl⟩
  · rw [if_neg he]
    repeat' (first
      | (show WL _ _ _ _ _ _ _; first
        | refine WL.pure rfl rfl rfl rfl ?_
        | refine WL.nil ?_
        | (refine WL.calls hS rfl rfl (hrt _) rfl rfl rfl ?_; rintro v w rfl hS))
      | (show WC _ _ _ _ _ _; first
        | refine WC.seq ?_
        | refine WC.region ?_
        | refine WC.ret ?_
        | refine WC.condT rfl (decide_eq_true (by first | with_reducible assumption | omega)) ?_)
      | refine seqQ_n ?_
      | refine seqQ_r ?_)
    exact fin3r rfl rfl rfl rfl ⟨hS.upd, rfl⟩
set_option maxHeartbeats 8000000 in
set_option maxRecDepth 100000 in
theorem rscan_c (s : List UInt8) (w0 : World) (hl : s.length ≤ 1099511627776) : Cal Tryz.prog 70 [str s] w0
    (fun v w' => Upd [] w0 w' ∧ ∃ A cap, v = scV A (scanE s).1.length cap (scanE s).2.1 (scanE s).2.2 ∧ New w0 w' (.own (.slice A (scanE s).1.length cap) 9 1 (scanE s).1.length (strs (scanE s).1))) := by
  refine Cal.mk' (by kernel_rfl) Tryz.func70 rfl rfl fun hS => ?_
  repeat' (first
    | (show WL _ _ _ _ _ _ _; first
      | refine WL.pure rfl rfl rfl rfl ?_
      | refine WL.nil ?_)
    | (show WC _ _ _ _ _ _; first
      | refine WC.seq ?_
      | refine WC.region ?_
      | refine WC.block ?_)
    | refine seqQ_n ?_)
  have hS := hS.nilRow 9 1
  refine WC.loop (σ := Nat × List (List UInt8) × Nat × Option Addr × Nat × Nat) [0] (fun (p, done, n, A, cap, k) => [(5, .slice A n cap), (6, .int .i64 (p : Int))])
    (fun (p, done, n, A, cap, k) w => p ≤ s.length ∧ s.length - p ≤ k ∧ n = done.length ∧ n ≤ p ∧ scanE s = (done ++ (scanF k (s.drop p)).1, p + (scanF k (s.drop p)).2.1, (scanF k (s.drop p)).2.2) ∧ St w0 [] w [.own (.slice A n cap) 9 1 n (strs done)] _)
    (fun (p, _) => s.length - p) (0, [], 0, none, 0, s.length) ⟨Nat.zero_le _, by omega, rfl, Nat.zero_le _, by simp [scanE], hS⟩ ⟨rfl, rfl, trivial⟩ ?_
  clear hS
  rintro ⟨p, done, n, A, cap, k⟩ g w ⟨hp, hk, hn, hnp, hsc, hS⟩
  show WC _ _ _ (lf _ [(5, .slice A n cap), (6, .int .i64 (p : Int))] _ _) _ _
  by_cases hlt : p < s.length
  · have hne : s.drop p ≠ [] := by intro e; have := congrArg List.length e; simp at this; omega
    obtain ⟨k, rfl⟩ : ∃ k', k = k' + 1 := ⟨k - 1, by omega⟩
    have hle := readE_le (s.drop p)
    have hlen : (s.drop p).length = s.length - p := by simp
    have hrc := fun (w0 : World) => rfrd_c (s.drop p) w0 (by omega)
    unfold frV0 at hrc
    rcases hr : readE (s.drop p) with ⟨x, u, e⟩
    rw [hr] at hrc
    simp only [scanF, if_neg hne, hr] at hsc
    rw [hr] at hle
    dsimp only at hrc
    by_cases he : e = 0
    · subst he
      rw [if_pos rfl] at hsc
      obtain ⟨h4, hu, hx⟩ := hle rfl
      dsimp only at h4 hu hx
      rw [hlen] at hu hx
      have hdd : (s.drop p).drop u = s.drop (p + u) := by rw [List.drop_drop]
      rw [hdd] at hsc
      clear hle hr
      repeat' (first
        | (show WL _ _ _ _ _ _ _; first
          | refine WL.pure rfl rfl rfl rfl ?_
          | refine WL.nil ?_
          | refine WL.add rfl rfl rfl (by omega) rfl rfl rfl ?_
          | (refine WL.lowS (j := p) rfl rfl rfl rfl (by omega) rfl rfl rfl ?_)
          | (refine WL.calls hS rfl rfl (hrc _) rfl rfl rfl ?_; rintro v w rfl hS)
          | (refine WL.app hS rfl rfl rfl rfl (RdOk.box (by repeat (first | exact List.Mem.head _ | apply List.Mem.tail))) rfl rfl (fun A cap => by repeat (first | exact Repl.here | apply Repl.there)) (by omega) rfl rfl rfl ?_; intro A3 cap3 w hS)
          | (refine WL.slit hS rfl rfl rfl rfl rfl ?_; intro w b hS))
        | (show WC _ _ _ _ _ _; first
          | refine WC.seq ?_
          | refine WC.region ?_
          | refine WC.block ?_
          | refine WC.skip ?_
          | refine WC.condF rfl (by decide) ?_
          | refine WC.condT rfl (decide_eq_true (by first | with_reducible assumption | omega)) ?_)
        | refine seqQ_n ?_
        | refine blkQ_n ?_)
      exact rndQ_n (p + u, done ++ [x], n + 1, A3, cap3, k) ⟨by omega, by omega, by simp [hn], by omega, by rw [hsc]; simp [Nat.add_assoc], by rw [← strs_snoc]; exact hS.droplast2 (by repeat (first | exact Pulls.nil | (apply Pulls.cons; focus (repeat (first | exact Pull.here | apply Pull.there)))))⟩ (by show s.length - (p + u) < s.length - p; omega) ⟨rfl, vint (by omega), trivial⟩ ⟨rfl, trivial⟩
    · rw [if_neg he] at hsc
      simp only [List.append_nil, Nat.add_zero] at hsc
      rw [hsc]
      clear hle hr
      repeat' (first
        | (show WL _ _ _ _ _ _ _; first
          | refine WL.pure rfl rfl rfl rfl ?_
          | refine WL.nil ?_
          | (refine WL.lowS (j := p) rfl rfl rfl rfl (by omega) rfl rfl rfl ?_)
          | (refine WL.calls hS rfl rfl (hrc _) rfl rfl rfl ?_; rintro v w rfl hS))
        | (show WC _ _ _ _ _ _; first
          | refine WC.seq ?_
          | refine WC.region ?_
          | refine WC.block ?_
          | refine WC.skip ?_
          | refine WC.ret ?_
          | refine WC.condT rfl (decide_eq_true (by first | with_reducible assumption | omega)) ?_)
        | refine seqQ_n ?_
        | refine seqQ_r ?_
        | refine blkQ_r ?_
        | refine rndQ_r ?_)
      subst hn
      exact fin3r rfl rfl rfl rfl ⟨hS.upd, _, _, rfl, hS.newOf (List.Mem.head _)⟩
  · have hde : s.drop p = [] := List.drop_of_length_le (by omega)
    have hsf : scanF k [] = ([], 0, 0) := by cases k <;> simp [scanF]
    rw [hde, hsf] at hsc
    simp only [List.append_nil, Nat.add_zero] at hsc
    rw [hsc]
    repeat' (first
      | (show WL _ _ _ _ _ _ _; first
        | refine WL.pure rfl rfl rfl rfl ?_
        | refine WL.nil ?_)
      | (show WC _ _ _ _ _ _; first
        | refine WC.seq ?_
        | refine WC.region ?_
        | refine WC.exit ?_
        | refine WC.ret ?_
        | refine WC.condF rfl (decide_eq_false (by first | with_reducible assumption | omega)) ?_)
      | refine seqQ_n ?_
      | refine seqQ_x ?_
      | refine blkQ_hit rfl ?_
      | refine rndQ_x ?_)
    subst hn
    exact fin3r rfl rfl rfl rfl ⟨hS.upd, _, _, rfl, hS.newOf (List.Mem.head _)⟩
end Go.Proofs.YtccfiohagbneaaaGreatDoor

/- What is proved: what the reference's journal does: Fill, Reset, Add. Conditions: a disk without limits, of bounded size. -/
set_option linter.unusedSimpArgs false
set_option linter.unusedVariables false
namespace Go.Proofs.YtccfiohagbneaaaGreatDoor
open Go Go.J Go.RowKit
theorem mset_le {β : Type} (m : List (List UInt8 × β)) (p : List UInt8) (v : β) : (mset m p v).length ≤ m.length + 1 := by
  have h := congrArg List.length (mset_keys m p v)
  rw [List.length_map] at h
  rw [h]
  split
  · rw [List.length_map]; omega
  · rw [List.length_append, List.length_map]; exact Nat.le_refl _
theorem write_le (D : Dk) (p s : List UInt8) : (D.write p s).2.items.length ≤ D.items.length + 1 := by
  have hs := step_items D
  unfold Dk.write
  repeat' split
  all_goals first
    | (show D.items.length ≤ _; omega)
    | (show D.step.items.length ≤ _; rw [hs]; omega)
    | (show (mset D.step.items p _).length ≤ _; rw [hs]; exact mset_le _ _ _)
theorem sync_le (D : Dk) (p : List UInt8) : (D.sync p).2.items.length ≤ D.items.length + 1 := by
  have hs := step_items D
  unfold Dk.sync
  repeat' split
  all_goals first
    | (show D.items.length ≤ _; omega)
    | (show D.step.items.length ≤ _; rw [hs]; omega)
    | (show (mset D.step.items p _).length ≤ _; rw [hs]; exact mset_le _ _ _)
theorem append_le (D : Dk) (p s : List UInt8) : (D.append p s).2.items.length ≤ D.items.length + 1 := by
  have hs := step_items D
  unfold Dk.append
  repeat' split
  all_goals first
    | (show D.items.length ≤ _; omega)
    | (show D.step.items.length ≤ _; rw [hs]; omega)
    | (show (mset D.step.items p _).length ≤ _; rw [hs]; exact mset_le _ _ _)
set_option maxHeartbeats 8000000 in
set_option maxRecDepth 100000 in
theorem rffill_c {dk : Nat} {D : Dk} {fp : List Nat} (p s : List UInt8) {w0 : World} (hi : InL w0 [rfC dk D fp]) (hp : p.length ≤ 1099511620) (hn : D.items.length ≤ 1048570) (hno : D.Sm 1099511627776) (hs : s.length ≤ 1099511627776) :
    Cal Tryz.prog 69 [.pointer (some ⟨dk, 0, none⟩), str p, str s] w0 (fun v w' => v = .int .i64 (D.fill p s).1 ∧ ∃ fp', MutL w0 w' [rfC dk D fp] [rfC dk (D.fill p s).2 fp']) := by
  refine Cal.mkL hi (by kernel_rfl) Tryz.func69 rfl rfl fun hS => ?_
  have hl2 : (p ++ [95, 116]).length = p.length + 2 := by simp
  have hw := fun (w : World) (hI : InL w [rfC dk D fp]) => rfwrite_c (p ++ [95, 116]) s hI (by omega) (by omega) hs (hno.at_ _)
  have hm1 := hno.write (p := p ++ [95, 116]) hs
  have hn1 := write_le D (p ++ [95, 116]) s
  unfold Dk.fill
  generalize D.write (p ++ [95, 116]) s = r1 at *
  obtain ⟨e1, D1⟩ := r1
  dsimp only at hw hm1 hn1 ⊢
  have hy := fun (fp : List Nat) (w : World) (hI : InL w [rfC dk D1 fp]) => rfsync_c (p ++ [95, 116]) hI (by omega) (by omega)
  have hm2 := hm1.sync (p := p ++ [95, 116])
  have hn2 := sync_le D1 (p ++ [95, 116])
  generalize D1.sync (p ++ [95, 116]) = r2 at *
  obtain ⟨e2, D2⟩ := r2
  dsimp only at hy hm2 hn2 ⊢
  have hr := fun (fp : List Nat) (w : World) (hI : InL w [rfC dk D2 fp]) => rfrename_c (p ++ [95, 116]) p hI (by omega) (by omega) (by omega) (hm2.at_ _) (hm2.at_ _)
  generalize D2.rename (p ++ [95, 116]) p = r3 at *
  obtain ⟨e3, D3⟩ := r3
  dsimp only at hr ⊢
  generalize hpt : p ++ [95, 116] = pt at *
  by_cases h1 : e1 = 0
  · rw [if_neg (fun e => e h1)]
    by_cases h2 : e2 = 0
    · rw [if_neg (fun e => e h2)]
      subst h1 h2
      repeat' (first
        | (show WL _ _ _ _ _ _ _; first
          | refine WL.pure rfl rfl rfl rfl ?_
          | refine WL.nil ?_
          | (refine WL.cat rfl rfl rfl (by show _ + 2 ≤ _; omega) rfl rfl rfl ?_; rw [hpt])
          | (refine WL.callL (D := [rfC dk D fp]) hS (by repeat (first | exact Pulls.nil | (apply Pulls.cons; focus (repeat (first | exact Pull.here | apply Pull.there))))) rfl rfl (fun hI => hw _ hI) rfl rfl rfl ?_; rintro v w ⟨rfl, f1, hm⟩ hS; replace hS := hS _ hm; clear hm)
          | (refine WL.callL (D := [rfC dk D1 f1]) hS (by repeat (first | exact Pulls.nil | (apply Pulls.cons; focus (repeat (first | exact Pull.here | apply Pull.there))))) rfl rfl (fun hI => hy _ _ hI) rfl rfl rfl ?_; rintro v w ⟨rfl, f2, hm⟩ hS; replace hS := hS _ hm; clear hm)
          | (refine WL.callL (D := [rfC dk D2 f2]) hS (by repeat (first | exact Pulls.nil | (apply Pulls.cons; focus (repeat (first | exact Pull.here | apply Pull.there))))) rfl rfl (fun hI => hr _ _ hI) rfl rfl rfl ?_; rintro v w ⟨rfl, f3, hm⟩ hS; replace hS := hS _ hm; clear hm))
        | (show WC _ _ _ _ _ _; first
          | refine WC.seq ?_
          | refine WC.region ?_
          | refine WC.ret ?_
          | refine WC.condT rfl (by decide) ?_)
        | refine seqQ_n ?_)
      exact fin1r rfl rfl ⟨rfl, _, hS.mutLp (by repeat (first | exact Pulls.nil | (apply Pulls.cons; focus (repeat (first | exact Pull.here | apply Pull.there)))))⟩
    · rw [if_pos h2]
      subst h1
      repeat' (first
        | (show WL _ _ _ _ _ _ _; first
          | refine WL.pure rfl rfl rfl rfl ?_
          | refine WL.nil ?_
          | (refine WL.cat rfl rfl rfl (by show _ + 2 ≤ _; omega) rfl rfl rfl ?_; rw [hpt])
          | (refine WL.callL (D := [rfC dk D fp]) hS (by repeat (first | exact Pulls.nil | (apply Pulls.cons; focus (repeat (first | exact Pull.here | apply Pull.there))))) rfl rfl (fun hI => hw _ hI) rfl rfl rfl ?_; rintro v w ⟨rfl, f1, hm⟩ hS; replace hS := hS _ hm; clear hm)
          | (refine WL.callL (D := [rfC dk D1 f1]) hS (by repeat (first | exact Pulls.nil | (apply Pulls.cons; focus (repeat (first | exact Pull.here | apply Pull.there))))) rfl rfl (fun hI => hy _ _ hI) rfl rfl rfl ?_; rintro v w ⟨rfl, f2, hm⟩ hS; replace hS := hS _ hm; clear hm))
        | (show WC _ _ _ _ _ _; first
          | refine WC.seq ?_
          | refine WC.region ?_
          | refine WC.skip ?_
          | refine WC.ret ?_
          | refine WC.condT rfl (by decide) ?_
          | refine WC.condF rfl (decide_eq_false (by first | with_reducible assumption | omega)) ?_)
        | refine seqQ_n ?_)
      exact fin1r rfl rfl ⟨rfl, _, hS.mutLp (by repeat (first | exact Pulls.nil | (apply Pulls.cons; focus (repeat (first | exact Pull.here | apply Pull.there)))))⟩
  · rw [if_pos h1]
    repeat' (first
      | (show WL _ _ _ _ _ _ _; first
        | refine WL.pure rfl rfl rfl rfl ?_
        | refine WL.nil ?_
        | (refine WL.cat rfl rfl rfl (by show _ + 2 ≤ _; omega) rfl rfl rfl ?_; rw [hpt])
        | (refine WL.callL (D := [rfC dk D fp]) hS (by repeat (first | exact Pulls.nil | (apply Pulls.cons; focus (repeat (first | exact Pull.here | apply Pull.there))))) rfl rfl (fun hI => hw _ hI) rfl rfl rfl ?_; rintro v w ⟨rfl, f1, hm⟩ hS; replace hS := hS _ hm; clear hm))
      | (show WC _ _ _ _ _ _; first
        | refine WC.seq ?_
        | refine WC.region ?_
        | refine WC.skip ?_
        | refine WC.ret ?_
        | refine WC.condF rfl (decide_eq_false (by first | with_reducible assumption | omega)) ?_)
      | refine seqQ_n ?_)
    exact fin1r rfl rfl ⟨rfl, _, hS.mutLp (by repeat (first | exact Pulls.nil | (apply Pulls.cons; focus (repeat (first | exact Pull.here | apply Pull.there)))))⟩
def rlφ (L dk : Nat) (G : Lg) (D : List Chunk) : Prop := ∃ A cap, D = [.box L 60 [.pointer (some ⟨dk, 0, none⟩), str G.p, .slice A G.recs.length cap, .bool G.dmg], .own (.slice A G.recs.length cap) 9 1 G.recs.length (strs G.recs)]
/-- the document's journal -/
abbrev rlC (L dk : Nat) (G : Lg) (fp : List Nat) : Chunk := objC (rlφ L dk G) fp
set_option maxHeartbeats 8000000 in
set_option maxRecDepth 100000 in
theorem rlreset_c {L dk : Nat} {D : Dk} {G : Lg} {fp fq : List Nat} {w0 : World} (hi : InL w0 [rlC L dk G fp, rfC dk D fq]) (hp : G.p.length ≤ 1099511620) (hn : D.items.length ≤ 1048570) (hno : D.Sm 1099511627776) :
    Cal Tryz.prog 18 [.pointer (some ⟨L, 0, none⟩)] w0
      (fun v w' => v = .int .i64 (D.fill G.p []).1 ∧ ∃ fp' fq', MutL w0 w' [rlC L dk G fp, rfC dk D fq] [rlC L dk (G.reset (D.fill G.p []).1) fp', rfC dk (D.fill G.p []).2 fq']) := by
  refine Cal.mkL hi (by kernel_rfl) Tryz.func18 rfl rfl fun hS => ?_
  obtain ⟨_, ⟨A, cap, rfl⟩, hfp, hS⟩ := St.objOpen hS
  replace hS : St w0 _ w0 [.box L 60 [.pointer (some ⟨dk, 0, none⟩), str G.p, .slice A G.recs.length cap, .bool G.dmg], .own (.slice A G.recs.length cap) 9 1 G.recs.length (strs G.recs), rfC dk D fq] _ := hS
  have hf := fun (w : World) (hI : InL w [rfC dk D fq]) => rffill_c G.p [] hI hp hn hno (by simp)
  generalize D.fill G.p [] = r at *
  obtain ⟨e, D1⟩ := r
  dsimp only at hf ⊢
  by_cases he : e = 0
  · have hR : G.reset e = { G with recs := [] } := by unfold Lg.reset; rw [if_pos he]
    rw [hR]
    repeat' (first
      | (show WL _ _ _ _ _ _ _; first
        | refine WL.pure rfl rfl rfl rfl ?_
        | refine WL.nil ?_
        | (refine WL.store hS rfl rfl rfl (by repeat (first | exact StB.here rfl | apply StB.there)) rfl rfl rfl ?_; intro w hS))
      | (show WC _ _ _ _ _ _; first
        | refine WC.seq ?_
        | refine WC.region ?_
        | refine WC.ret ?_
        | (show WC _ _ (Code.region _ (List.toArray [_, _, _, _, _, _, _, _, _, _]) true) _ _ _; refine WC.drawL [rfC dk D fq] hS (by repeat (first | exact Pulls.nil | (apply Pulls.cons; focus (repeat (first | exact Pull.here | apply Pull.there))))) [0,1,2,3,4,5,6,7,9] [0,1,2,3,4,5,6,7,8,9] (by kernel_rfl) (by kernel_rfl) ?_; clear hS; intro w hS hM)
        | refine WC.condT rfl (decide_eq_true (by first | with_reducible assumption | omega)) ?_)
      | (show WD _ _ _ _ _ _ _ _ _; first
        | refine WD.pure rfl rfl rfl rfl rfl ?_
        | refine WD.nil ?_
        | refine WD.load rfl rfl (LdOk.box (by repeat (first | exact List.Mem.head _ | apply List.Mem.tail)) rfl) rfl rfl rfl rfl ?_
        | (refine WD.callL (D := [rfC dk D fq]) hS (by repeat (first | exact Pulls.nil | (apply Pulls.cons; focus (repeat (first | exact Pull.here | apply Pull.there))))) (.refl _ _) rfl rfl (fun hI => hf _ hI) rfl rfl rfl rfl rfl ?_; rintro v w ⟨rfl, f1, hm⟩; refine ⟨_, hm, fun hS hM => ?_⟩; clear hm))
      | refine seqQ_n ?_)
    have hS := hS.nilRow 9 1
    have hS := St.objClose (φ := rlφ L dk { G with recs := [] }) (hS.pulls (D := [.box L 60 [.pointer (some ⟨dk, 0, none⟩), str G.p, .slice none 0 0, .bool G.dmg], .own (.slice none 0 0) 9 1 0 []]) (by repeat (first | exact Pulls.nil | (apply Pulls.cons; focus (repeat (first | exact Pull.here | apply Pull.there)))))) ⟨none, 0, rfl⟩
    exact fin1r rfl rfl ⟨rfl, _, _, hS.mutLp (by repeat (first | exact Pulls.nil | (apply Pulls.cons; focus (repeat (first | exact Pull.here | apply Pull.there)))))⟩
  · have hR : G.reset e = G := by unfold Lg.reset; rw [if_neg he]
    rw [hR]
    repeat' (first
      | (show WL _ _ _ _ _ _ _; first
        | refine WL.pure rfl rfl rfl rfl ?_
        | refine WL.nil ?_)
      | (show WC _ _ _ _ _ _; first
        | refine WC.seq ?_
        | refine WC.region ?_
        | refine WC.skip ?_
        | refine WC.ret ?_
        | (show WC _ _ (Code.region _ (List.toArray [_, _, _, _, _, _, _, _, _, _]) true) _ _ _; refine WC.drawL [rfC dk D fq] hS (by repeat (first | exact Pulls.nil | (apply Pulls.cons; focus (repeat (first | exact Pull.here | apply Pull.there))))) [0,1,2,3,4,5,6,7,9] [0,1,2,3,4,5,6,7,8,9] (by kernel_rfl) (by kernel_rfl) ?_; clear hS; intro w hS hM)
        | refine WC.condF rfl (decide_eq_false (by first | with_reducible assumption | omega)) ?_)
      | (show WD _ _ _ _ _ _ _ _ _; first
        | refine WD.pure rfl rfl rfl rfl rfl ?_
        | refine WD.nil ?_
        | refine WD.load rfl rfl (LdOk.box (by repeat (first | exact List.Mem.head _ | apply List.Mem.tail)) rfl) rfl rfl rfl rfl ?_
        | (refine WD.callL (D := [rfC dk D fq]) hS (by repeat (first | exact Pulls.nil | (apply Pulls.cons; focus (repeat (first | exact Pull.here | apply Pull.there))))) (.refl _ _) rfl rfl (fun hI => hf _ hI) rfl rfl rfl rfl rfl ?_; rintro v w ⟨rfl, f1, hm⟩; refine ⟨_, hm, fun hS hM => ?_⟩; clear hm))
      | refine seqQ_n ?_)
    have hS := St.objClose (φ := rlφ L dk G) (hS.pulls (D := [.box L 60 [.pointer (some ⟨dk, 0, none⟩), str G.p, .slice A G.recs.length cap, .bool G.dmg], .own (.slice A G.recs.length cap) 9 1 G.recs.length (strs G.recs)]) (by repeat (first | exact Pulls.nil | (apply Pulls.cons; focus (repeat (first | exact Pull.here | apply Pull.there)))))) ⟨A, cap, rfl⟩
    exact fin1r rfl rfl ⟨rfl, _, _, hS.mutLp (by repeat (first | exact Pulls.nil | (apply Pulls.cons; focus (repeat (first | exact Pull.here | apply Pull.there)))))⟩
set_option maxHeartbeats 8000000 in
set_option maxRecDepth 100000 in
theorem rladd_c {L dk : Nat} {D D' : Dk} {G G' : Lg} {fp fq : List Nat} {w0 : World} {e : Int} (r : List UInt8) (hi : InL w0 [rlC L dk G fp, rfC dk D fq]) (hu : walAdd G D r = (e, G', D')) (hp : G.p.length ≤ 1099511620) (hn : D.items.length ≤ 1048570)
    (hr : r.length ≤ 1073741824) (hd : (D.at G.p).data.length ≤ 549755813888) (hnr : G.recs.length ≤ 4194304) :
    Cal Tryz.prog 16 [.pointer (some ⟨L, 0, none⟩), str r] w0
      (fun v w' => v = .int .i64 e ∧ ∃ fp' fq', MutL w0 w' [rlC L dk G fp, rfC dk D fq] [rlC L dk G' fp', rfC dk D' fq']) := by
  refine Cal.mkL hi (by kernel_rfl) Tryz.func16 rfl rfl fun hS => ?_
  obtain ⟨_, ⟨A, cap, rfl⟩, hfp, hS⟩ := St.objOpen hS
  replace hS : St w0 _ w0 [.box L 60 [.pointer (some ⟨dk, 0, none⟩), str G.p, .slice A G.recs.length cap, .bool G.dmg], .own (.slice A G.recs.length cap) 9 1 G.recs.length (strs G.recs), rfC dk D fq] _ := hS
  have hpl := packE_len r
  have hpn := putN_len10 (n := r.length) (by omega)
  have hA := fun (w : World) (hI : InL w [rfC dk D fq]) => rfappend_c G.p (packE r) hI (by omega) (by omega) (by omega)
  have hn1 := append_le D G.p (packE r)
  rcases h1 : D.append G.p (packE r) with ⟨e1, D1⟩
  rw [h1] at hA hn1
  dsimp only at hA hn1
  have hY := fun (f : List Nat) (w : World) (hI : InL w [rfC dk D1 f]) => rfsync_c G.p hI (by omega) (by omega)
  rcases h2 : D1.sync G.p with ⟨e2, D2⟩
  rw [h2] at hY
  dsimp only at hY
  have hu : (if e1 ≠ 0 then (e1, G, D1) else if e2 ≠ 0 then (e2, G, D2) else (0, G.push r, D2)) = (e, G', D') := by
    rw [← hu]; unfold walAdd; rw [h1]; dsimp only; rw [h2]
  clear h1 h2
  repeat' (first
    | (show WL _ _ _ _ _ _ _; first
      | refine WL.pure rfl rfl rfl rfl ?_
      | refine WL.nil ?_
      | refine WL.load hS rfl rfl (LdOk.box (by repeat (first | exact List.Mem.head _ | apply List.Mem.tail)) rfl) rfl rfl rfl ?_
      | (refine WL.app hS rfl rfl rfl rfl (RdOk.box (by repeat (first | exact List.Mem.head _ | apply List.Mem.tail))) rfl rfl (fun A' cap' => (by repeat (first | exact Repl.here | apply Repl.there))) (by omega) rfl rfl rfl ?_; intro A' cap' w hS)
      | (refine WL.store hS rfl rfl rfl (by repeat (first | exact StB.here rfl | apply StB.there)) rfl rfl rfl ?_; intro w hS)
      | (refine WL.slit hS rfl rfl rfl rfl rfl ?_; intro w b hS))
    | (show WC _ _ _ _ _ _; first
      | refine WC.seq ?_
      | refine WC.region ?_
      | refine WC.skip ?_
      | refine WC.ret ?_
      | (show WC _ _ (Code.region _ (List.toArray [_, _, _, _, _, _, _, _, _, _, _, _]) true) _ _ _; refine WC.drawL [rfC dk D fq] hS (by repeat (first | exact Pulls.nil | (apply Pulls.cons; focus (repeat (first | exact Pull.here | apply Pull.there))))) [0,1,2,3,4,5,6,7,8,11] [0,1,2,3,4,5,6,7,8,9,10,11] (by kernel_rfl) (by kernel_rfl) ?_; clear hS; intro w hS hM)
      | (show WC _ _ (Code.region _ (List.toArray [_, _, _, _, _, _, _, _, _, _]) true) _ _ _; refine WC.drawL [rfC dk D1 f1] hS (by repeat (first | exact Pulls.nil | (apply Pulls.cons; focus (repeat (first | exact Pull.here | apply Pull.there))))) [0,1,2,3,4,5,6,7,9] [0,1,2,3,4,5,6,7,8,9] (by kernel_rfl) (by kernel_rfl) ?_; clear hS; intro w hS hM)
      | refine WC.condF rfl (decide_eq_false (by first | with_reducible assumption | omega)) ?_
      | (refine WC.cond rfl (fun h => ?_) (fun h => ?_) <;> (try simp only [Classical.not_not, Bool.not_eq_true', Bool.not_eq_false', Bool.not_eq_eq_eq_not, Bool.not_true, Bool.not_false, beq_iff_eq, beq_eq_false_iff_ne, ne_eq, decide_eq_decide, decide_eq_true_eq, decide_eq_false_iff_not, Bool.and_eq_true, Bool.or_eq_true, Bool.and_eq_false_iff, Bool.or_eq_false_iff] at h) <;> (try (exfalso; first | omega | contradiction))))
    | (show WD _ _ _ _ _ _ _ _ _; first
      | refine WD.pure rfl rfl rfl rfl rfl ?_
      | refine WD.nil ?_
      | refine WD.load rfl rfl (LdOk.box (by repeat (first | exact List.Mem.head _ | apply List.Mem.tail)) rfl) rfl rfl rfl rfl ?_
      | (refine WD.calls hS hM rfl rfl (rpack_c r _ (by omega)) rfl rfl rfl rfl rfl ?_; clear hS; rintro v w rfl hS)
      | (refine WD.callL (D := [rfC dk D fq]) hS (by repeat (first | exact Pulls.nil | (apply Pulls.cons; focus (repeat (first | exact Pull.here | apply Pull.there))))) (.refl _ _) rfl rfl (fun hI => hA _ hI) rfl rfl rfl rfl rfl ?_; rintro v w ⟨rfl, f1, hm⟩; refine ⟨_, hm, fun hS hM => ?_⟩; clear hm)
      | (refine WD.callL (D := [rfC dk D1 f1]) hS (by repeat (first | exact Pulls.nil | (apply Pulls.cons; focus (repeat (first | exact Pull.here | apply Pull.there))))) (.refl _ _) rfl rfl (fun hI => hY _ _ hI) rfl rfl rfl rfl rfl ?_; rintro v w ⟨rfl, f2, hm⟩; refine ⟨_, hm, fun hS hM => ?_⟩; clear hm))
    | refine seqQ_n ?_)
  · rw [if_neg (fun hh => hh (by assumption)), if_neg (fun hh => hh (by assumption))] at hu
    cases hu
    have hS := St.objClose (φ := rlφ L dk (G.push r)) (hS.pulls (D := [.box L 60 [.pointer (some ⟨dk, 0, none⟩), str G.p, .slice A' (G.recs.length + 1) cap', .bool G.dmg], .own (.slice A' (G.recs.length + 1) cap') 9 1 (G.recs.length + 1) (strs G.recs ++ [str r])]) (by repeat (first | exact Pulls.nil | (apply Pulls.cons; focus (repeat (first | exact Pull.here | apply Pull.there)))))) ⟨A', cap', by simp [Lg.push, strs_snoc]⟩
    exact fin1r rfl rfl ⟨vint (by assumption), _, _, hS.mutLp (by repeat (first | exact Pulls.nil | (apply Pulls.cons; focus (repeat (first | exact Pull.here | apply Pull.there)))))⟩
  · rw [if_neg (fun hh => hh (by assumption)), if_pos h] at hu
    cases hu
    have hS := St.objClose (φ := rlφ L dk G) (hS.pulls (D := [.box L 60 [.pointer (some ⟨dk, 0, none⟩), str G.p, .slice A G.recs.length cap, .bool G.dmg], .own (.slice A G.recs.length cap) 9 1 G.recs.length (strs G.recs)]) (by repeat (first | exact Pulls.nil | (apply Pulls.cons; focus (repeat (first | exact Pull.here | apply Pull.there)))))) ⟨A, cap, rfl⟩
    exact fin1r rfl rfl ⟨rfl, _, _, hS.mutLp (by repeat (first | exact Pulls.nil | (apply Pulls.cons; focus (repeat (first | exact Pull.here | apply Pull.there)))))⟩
  · rw [if_pos h] at hu
    cases hu
    have hS := St.objClose (φ := rlφ L dk G) (hS.pulls (D := [.box L 60 [.pointer (some ⟨dk, 0, none⟩), str G.p, .slice A G.recs.length cap, .bool G.dmg], .own (.slice A G.recs.length cap) 9 1 G.recs.length (strs G.recs)]) (by repeat (first | exact Pulls.nil | (apply Pulls.cons; focus (repeat (first | exact Pull.here | apply Pull.there)))))) ⟨A, cap, rfl⟩
    exact fin1r rfl rfl ⟨rfl, _, _, hS.mutLp (by repeat (first | exact Pulls.nil | (apply Pulls.cons; focus (repeat (first | exact Pull.here | apply Pull.there)))))⟩
end Go.Proofs.YtccfiohagbneaaaGreatDoor

/- What is proved: what the reference's journal does: Open. Conditions: a disk without limits, of bounded size. -/
set_option linter.unusedSimpArgs false
set_option linter.unusedVariables false
namespace Go.Proofs.YtccfiohagbneaaaGreatDoor
open Go Go.J Go.RowKit
def RfIs (dk : Nat) (D : Dk) (w : World) : Prop := ∃ A cap l, RepL l D.items ∧ RfAt dk A cap l D w
theorem St.rfIs {w0 w : World} {M fp : List Nat} {H H' : List Chunk} {Z : List Snap} {dk : Nat} {D : Dk} (hS : St w0 M w H Z) (hp : Pulls [rfC dk D fp] H H') : RfIs dk D w := by
  have hS := hS.pulls hp
  obtain ⟨_, ⟨A, cap, l, hR, rfl⟩, hfp, hS⟩ := St.objOpen hS
  exact ⟨A, cap, l, hR, St.rfAt hS (by repeat (first | exact List.Mem.head _ | apply List.Mem.tail)) (by repeat (first | exact List.Mem.head _ | apply List.Mem.tail))⟩
theorem rfkindI_c {dk : Nat} {D : Dk} (p : List UInt8) {w0 : World} (h : RfIs dk D w0) (hn : D.items.length ≤ 1048576) : Cal Tryz.prog 63 [.pointer (some ⟨dk, 0, none⟩), str p] w0 (fun v w' => Upd [] w0 w' ∧ v = .int .i64 (D.kind p)) := by
  obtain ⟨A, cap, l, hR, hA⟩ := h
  exact rfkind_c p hR hA (by rw [hR.len]; exact hn)
theorem rfreadI_c {dk : Nat} {D : Dk} (p : List UInt8) {w0 : World} (h : RfIs dk D w0) (hn : D.items.length ≤ 1048576) : Cal Tryz.prog 28 [.pointer (some ⟨dk, 0, none⟩), str p] w0 (fun v w' => Upd [] w0 w' ∧ v = .tuple #[str (D.read p).1, .int .i64 (D.read p).2]) := by
  obtain ⟨A, cap, l, hR, hA⟩ := h
  exact rfread_c p hR hA (by rw [hR.len]; exact hn)
def rlopenR (dk : Nat) (D : Dk) (fq : List Nat) (w0 : World) (r : Int × Option Lg × Dk) (v : Value) (w' : World) : Prop :=
  match r with
  | (e, none, D') => v = .tuple #[.pointer none, .int .i64 e] ∧ ∃ fq', MutL w0 w' [rfC dk D fq] [rfC dk D' fq']
  | (e, some G, D') => ∃ L fp fq', v = .tuple #[.pointer (some ⟨L, 0, none⟩), .int .i64 e] ∧ MutL w0 w' [rfC dk D fq] [rlC L dk G fp, rfC dk D' fq']
set_option maxHeartbeats 16000000 in
set_option maxRecDepth 100000 in
theorem rlopen_c {dk : Nat} {D : Dk} {fq : List Nat} (p : List UInt8) {w0 : World} (hi : InL w0 [rfC dk D fq]) (hl : p.length ≤ 1099511620) (hno : D.Sm 1099511627776) (hn : D.items.length ≤ 1048570) :
    Cal Tryz.prog 14 [.pointer (some ⟨dk, 0, none⟩), str p] w0 (rlopenR dk D fq w0 (walOpen D p)) := by
  refine Cal.mkL hi (by kernel_rfl) Tryz.func14 rfl rfl fun hS => ?_
  have hkc := fun (w : World) (h : RfIs dk D w) => rfkindI_c p h (by omega)
  have hrc := fun (w : World) (h : RfIs dk D w) => rfreadI_c p h (by omega)
  by_cases hk : D.kind p = 0
  · have hf := fun (w : World) (hI : InL w [rfC dk D fq]) => rffill_c p [] hI hl hn hno (by simp)
    rcases hfe : D.fill p [] with ⟨e, D'⟩
    rw [hfe] at hf
    have hu : walOpen D p = if e ≠ 0 then (e, none, D') else (0, some ⟨p, [], false⟩, D') := by unfold walOpen; rw [if_pos hk, hfe]
    rw [hu]
    rw [hk] at hkc
    dsimp only at hf
    by_cases he : e = 0
    · rw [if_neg (fun x => x he)]
      subst he
      repeat' (first
        | (show WL _ _ _ _ _ _ _; first
          | refine WL.pure rfl rfl rfl rfl ?_
          | refine WL.nil ?_
          | (refine WL.calls hS rfl rfl (hkc _ (St.rfIs hS (by repeat (first | exact Pulls.nil | (apply Pulls.cons; focus (repeat (first | exact Pull.here | apply Pull.there))))))) rfl rfl rfl ?_; rintro v w rfl hS)
          | (refine WL.callL (D := [rfC dk D fq]) hS (by repeat (first | exact Pulls.nil | (apply Pulls.cons; focus (repeat (first | exact Pull.here | apply Pull.there))))) rfl rfl (fun hI => hf _ hI) rfl rfl rfl ?_; rintro v w ⟨rfl, f1, hm⟩ hS; replace hS := hS _ hm; clear hm)
          | (refine WL.box hS rfl rfl rfl rfl rfl ?_; intro w b hS)
          | refine WL.build rfl rfl rfl rfl rfl ?_)
        | (show WC _ _ _ _ _ _; first
          | refine WC.seq ?_
          | refine WC.region ?_
          | refine WC.skip ?_
          | refine WC.ret ?_
          | refine WC.condT rfl (by decide) ?_
          | refine WC.condF rfl (by decide) ?_)
        | refine seqQ_n ?_
        | refine seqQ_r ?_)
      have hS := hS.nilRow 9 1
      have hS := St.objClose (φ := rlφ b dk ⟨p, [], false⟩) (hS.pulls (D := [.box b 60 [.pointer (some ⟨dk, 0, none⟩), str p, .slice none 0 0, .bool false], .own (.slice none 0 0) 9 1 0 []]) (by repeat (first | exact Pulls.nil | (apply Pulls.cons; focus (repeat (first | exact Pull.here | apply Pull.there)))))) ⟨none, 0, rfl⟩
      exact fin2r rfl rfl rfl ⟨_, _, _, rfl, hS.mutLp (by repeat (first | exact Pulls.nil | (apply Pulls.cons; focus (repeat (first | exact Pull.here | apply Pull.there)))))⟩
    · rw [if_pos he]
      repeat' (first
        | (show WL _ _ _ _ _ _ _; first
          | refine WL.pure rfl rfl rfl rfl ?_
          | refine WL.nil ?_
          | (refine WL.calls hS rfl rfl (hkc _ (St.rfIs hS (by repeat (first | exact Pulls.nil | (apply Pulls.cons; focus (repeat (first | exact Pull.here | apply Pull.there))))))) rfl rfl rfl ?_; rintro v w rfl hS)
          | (refine WL.callL (D := [rfC dk D fq]) hS (by repeat (first | exact Pulls.nil | (apply Pulls.cons; focus (repeat (first | exact Pull.here | apply Pull.there))))) rfl rfl (fun hI => hf _ hI) rfl rfl rfl ?_; rintro v w ⟨rfl, f1, hm⟩ hS; replace hS := hS _ hm; clear hm)
          | (refine WL.box hS rfl rfl rfl rfl rfl ?_; intro w b hS)
          | refine WL.build rfl rfl rfl rfl rfl ?_)
        | (show WC _ _ _ _ _ _; first
          | refine WC.seq ?_
          | refine WC.region ?_
          | refine WC.ret ?_
          | refine WC.condT rfl (by decide) ?_
          | refine WC.condT rfl (decide_eq_true (by first | with_reducible assumption | omega)) ?_)
        | refine seqQ_n ?_
        | refine seqQ_r ?_)
      exact fin2r rfl rfl rfl ⟨rfl, _, hS.mutLp (by repeat (first | exact Pulls.nil | (apply Pulls.cons; focus (repeat (first | exact Pull.here | apply Pull.there)))))⟩
  · have hsm := hno.at_ p
    rcases hr : D.read p with ⟨s, er⟩
    have hsl : s.length ≤ 1099511627776 := by
      have : s = (D.read p).1 := by rw [hr]
      rw [this]
      unfold Dk.read
      repeat' split
      all_goals first | exact Nat.zero_le _ | exact hsm
    rcases hsc : scanE s with ⟨rs, g, e⟩
    have hg : g ≤ s.length := by have := scanE_le s; rwa [hsc] at this
    have hf := fun (w : World) (hI : InL w [rfC dk D fq]) => rffill_c p (s.take g) hI hl hn hno (by rw [List.length_take]; omega)
    rcases hfe : D.fill p (s.take g) with ⟨ef, D'⟩
    rw [hfe] at hf
    dsimp only at hf
    have hu : walOpen D p = if er ≠ 0 then (er, none, D) else if e ≠ 0 then (if ef ≠ 0 then (ef, none, D') else (0, some ⟨p, rs, decide (e = 6 ∨ e = 3)⟩, D')) else (0, some ⟨p, rs, decide (e = 6 ∨ e = 3)⟩, D) := by
      unfold walOpen; rw [if_neg hk, hr]; dsimp only; rw [hsc]; dsimp only; rw [hfe]
    rw [hu]
    rw [hr] at hrc
    dsimp only at hrc
    generalize D.kind p = kd at *
    clear hu hr hfe hsm
    by_cases h0 : er = 0
    · subst h0
      rw [if_neg (by decide)]
      have hcases : (e = 6 ∧ decide (e = 6 ∨ e = 3) = true) ∨ (e = 3 ∧ decide (e = 6 ∨ e = 3) = true) ∨ (e = 0 ∧ decide (e = 6 ∨ e = 3) = false) ∨ (e ≠ 6 ∧ e ≠ 3 ∧ e ≠ 0 ∧ decide (e = 6 ∨ e = 3) = false) := by
        by_cases h6 : e = 6
        · exact .inl ⟨h6, by simp [h6]⟩
        · by_cases h3 : e = 3
          · exact .inr (.inl ⟨h3, by simp [h3]⟩)
          · by_cases hz : e = 0
            · exact .inr (.inr (.inl ⟨hz, by simp [hz]⟩))
            · exact .inr (.inr (.inr ⟨h6, h3, hz, by simp [h6, h3]⟩))
      have hfs := fun (w : World) => rscan_c s w hsl
      rw [hsc] at hfs
      dsimp only at hfs
      clear hsc
      rcases hcases with ⟨rfl, hd⟩ | ⟨rfl, hd⟩ | ⟨rfl, hd⟩ | ⟨h6, h3, hz, hd⟩
      all_goals rw [hd]; clear hd
      all_goals
        repeat' (first
          | (show WL _ _ _ _ _ _ _; first
            | refine WL.pure rfl rfl rfl rfl ?_
            | refine WL.nil ?_
            | (refine WL.calls hS rfl rfl (hkc _ (St.rfIs hS (by repeat (first | exact Pulls.nil | (apply Pulls.cons; focus (repeat (first | exact Pull.here | apply Pull.there))))))) rfl rfl rfl ?_; rintro v w rfl hS)
            | (refine WL.calls hS rfl rfl (hrc _ (St.rfIs hS (by repeat (first | exact Pulls.nil | (apply Pulls.cons; focus (repeat (first | exact Pull.here | apply Pull.there))))))) rfl rfl rfl ?_; rintro v w rfl hS)
            | (refine WL.callG rfl rfl (hfs _) rfl rfl rfl ?_; rintro v w ⟨hupd, A, cap, rfl, hnew⟩; replace hS := hS.new hupd hnew; clear hnew hupd)
            | (refine WL.highS (j := g) rfl rfl rfl rfl hg rfl rfl rfl ?_)
            | (refine WL.callL (D := [rfC dk D fq]) hS (by repeat (first | exact Pulls.nil | (apply Pulls.cons; focus (repeat (first | exact Pull.here | apply Pull.there))))) rfl rfl (fun hI => hf _ hI) rfl rfl rfl ?_; rintro v w ⟨rfl, f1, hm⟩ hS; replace hS := hS _ hm; clear hm)
            | (refine WL.store hS rfl rfl rfl (by repeat (first | exact StB.here rfl | apply StB.there)) rfl rfl rfl ?_; intro w hS)
            | (refine WL.box hS rfl rfl rfl rfl rfl ?_; intro w b hS)
            | refine WL.skip rfl rfl rfl ?_
            | refine WL.build rfl rfl rfl rfl rfl ?_
            | ((fail_if_success (refine WL.wanted rfl ?_)); refine WL.guard rfl rfl rfl (fun h => ?_) (fun h => ?_) <;> (try simp only [Classical.not_not, Bool.not_eq_true', Bool.not_eq_false', Bool.not_eq_eq_eq_not, Bool.not_true, Bool.not_false, beq_iff_eq, beq_eq_false_iff_ne, ne_eq, decide_eq_decide, decide_eq_true_eq, decide_eq_false_iff_not, Bool.and_eq_true, Bool.or_eq_true, Bool.and_eq_false_iff, Bool.or_eq_false_iff] at h) <;> (try (exfalso; first | omega | contradiction))))
          | (show WC _ _ _ _ _ _; first
            | refine WC.seq ?_
            | refine WC.region ?_
            | refine WC.skip ?_
            | refine WC.ret ?_
            | refine WC.condT rfl (by decide) ?_
            | refine WC.condF rfl (by decide) ?_
            | refine WC.condT rfl (decide_eq_true (by first | with_reducible assumption | omega)) ?_
            | refine WC.condF rfl (decide_eq_false (by first | with_reducible assumption | omega)) ?_
            | (refine WC.cond rfl (fun h => ?_) (fun h => ?_) <;> (try simp only [Classical.not_not, Bool.not_eq_true', Bool.not_eq_false', Bool.not_eq_eq_eq_not, Bool.not_true, Bool.not_false, beq_iff_eq, beq_eq_false_iff_ne, ne_eq, decide_eq_decide, decide_eq_true_eq, decide_eq_false_iff_not, Bool.and_eq_true, Bool.or_eq_true, Bool.and_eq_false_iff, Bool.or_eq_false_iff] at h) <;> (try (exfalso; first | omega | contradiction))))
          | refine seqQ_n ?_
          | refine seqQ_r ?_)
      all_goals first
        | rw [if_pos (by first | decide | assumption), if_pos h]
          exact fin2r rfl rfl rfl ⟨rfl, _, hS.mutLp (by repeat (first | exact Pulls.nil | (apply Pulls.cons; focus (repeat (first | exact Pull.here | apply Pull.there)))))⟩
        | (first | rw [if_pos (by first | decide | assumption), if_neg (fun hh => hh h)] | rw [if_neg (by decide)])
          try rw [decide_eq_false h3] at hS
          have hS := St.objClose (φ := rlφ b dk ⟨p, rs, _⟩) (hS.pulls (D := [.box b 60 [.pointer (some ⟨dk, 0, none⟩), str p, .slice A rs.length cap, .bool _], .own (.slice A rs.length cap) 9 1 rs.length (strs rs)]) (by repeat (first | exact Pulls.nil | (apply Pulls.cons; focus (repeat (first | exact Pull.here | apply Pull.there)))))) ⟨A, cap, rfl⟩
          exact fin2r rfl rfl rfl ⟨_, _, _, rfl, hS.mutLp (by repeat (first | exact Pulls.nil | (apply Pulls.cons; focus (repeat (first | exact Pull.here | apply Pull.there)))))⟩
    · rw [if_pos h0]
      repeat' (first
        | (show WL _ _ _ _ _ _ _; first
          | refine WL.pure rfl rfl rfl rfl ?_
          | refine WL.nil ?_
          | (refine WL.calls hS rfl rfl (hkc _ (St.rfIs hS (by repeat (first | exact Pulls.nil | (apply Pulls.cons; focus (repeat (first | exact Pull.here | apply Pull.there))))))) rfl rfl rfl ?_; rintro v w rfl hS)
          | (refine WL.calls hS rfl rfl (hrc _ (St.rfIs hS (by repeat (first | exact Pulls.nil | (apply Pulls.cons; focus (repeat (first | exact Pull.here | apply Pull.there))))))) rfl rfl rfl ?_; rintro v w rfl hS)
          | (refine WL.box hS rfl rfl rfl rfl rfl ?_; intro w b hS)
          | refine WL.build rfl rfl rfl rfl rfl ?_)
        | (show WC _ _ _ _ _ _; first
          | refine WC.seq ?_
          | refine WC.region ?_
          | refine WC.skip ?_
          | refine WC.ret ?_
          | refine WC.condT rfl (decide_eq_true (by first | with_reducible assumption | omega)) ?_
          | refine WC.condF rfl (decide_eq_false (by first | with_reducible assumption | omega)) ?_)
        | refine seqQ_n ?_
        | refine seqQ_r ?_)
      exact fin2r rfl rfl rfl ⟨rfl, _, hS.mutLp (by repeat (first | exact Pulls.nil | (apply Pulls.cons; focus (repeat (first | exact Pull.here | apply Pull.there)))))⟩
end Go.Proofs.YtccfiohagbneaaaGreatDoor

/- What is proved: a disk that holds one journal only stays so, whatever is done, and grows slowly. Conditions: none. -/
set_option linter.unusedSimpArgs false
set_option linter.unusedVariables false
namespace Go.Proofs.YtccfiohagbneaaaGreatDoor
open Go Go.J Go.RowKit
abbrev tP : List UInt8 := [118, 47, 108, 111, 103, 95, 116]
def FitI (B : Nat) (x : It) : Prop := x.data.length ≤ B ∧ x.kept.length ≤ B ∧ (x.anew = false → x.kept.length ≤ x.data.length)
def onlyP (p : List UInt8) : Prop := p = vP ∨ p = lP ∨ p = tP
theorem mset_in {β : Type} : ∀ {m : List (List UInt8 × β)} {x : List UInt8} {v : β} {p : List UInt8 × β}, p ∈ mset m x v → p ∈ m ∨ p = (x, v)
  | [], x, v, p, h => .inr (by simpa [mset] using h)
  | (k, u) :: m, x, v, p, h => by
    unfold mset at h
    split at h
    · rename_i e
      rcases List.mem_cons.1 h with h | h
      · exact .inr (by rw [h, e])
      · exact .inl (List.mem_cons_of_mem _ h)
    · rcases List.mem_cons.1 h with h | h
      · exact .inl (by rw [h]; exact List.mem_cons_self ..)
      · rcases mset_in h with h | h
        · exact .inl (List.mem_cons_of_mem _ h)
        · exact .inr h
theorem few_len {α : Type} [DecidableEq α] : ∀ {l k : List α}, l.Nodup → (∀ x ∈ l, x ∈ k) → l.length ≤ k.length
  | [], _, _, _ => Nat.zero_le _
  | a :: l, k, hn, h => by
    rw [List.nodup_cons] at hn
    have h1 := few_len (l := l) (k := k.erase a) hn.2 fun x hx => by
      rw [List.mem_erase_of_ne]
      · exact h x (List.mem_cons_of_mem _ hx)
      · rintro rfl; exact hn.1 hx
    have h2 := List.length_erase_of_mem (h a (List.mem_cons_self ..))
    have h3 : 0 < k.length := List.length_pos_of_mem (h a (List.mem_cons_self ..))
    rw [List.length_cons]
    omega
/-- a disk of at most three items, each of bounded size -/
structure DPl (B : Nat) (D : Dk) : Prop where
  lim : D.limits = []
  nd : (D.items.map Prod.fst).Nodup
  only : ∀ x ∈ D.items, onlyP x.1
  fit : ∀ x ∈ D.items, FitI B x.2
theorem FitI.mono {B B' : Nat} {x : It} (h : FitI B x) (hB : B ≤ B') : FitI B' x := ⟨Nat.le_trans h.1 hB, Nat.le_trans h.2.1 hB, h.2.2⟩
theorem FitI.zero (B : Nat) : FitI B It0 := ⟨Nat.zero_le _, Nat.zero_le _, fun _ => Nat.le_refl _⟩
section
variable {B B' : Nat} {D : Dk}
theorem DPl.mono (h : DPl B D) (hB : B ≤ B') : DPl B' D := ⟨h.lim, h.nd, h.only, fun x hx => (h.fit x hx).mono hB⟩
theorem DPl.at_ (h : DPl B D) (p : List UInt8) : FitI B (D.at p) := by
  unfold Dk.at
  cases e : mget D.items p with
  | none => exact FitI.zero B
  | some x => exact h.fit _ (mget_mem e)
theorem DPl.like {E : Dk} (h : DPl B D) (h1 : E.limits = D.limits) (h2 : E.items = D.items) : DPl B E := by
  obtain ⟨a, b, c, d⟩ := h
  exact ⟨h1.trans a, by rw [h2]; exact b, by rw [h2]; exact c, by rw [h2]; exact d⟩
theorem DPl.put {E : Dk} (h : DPl B D) {p : List UInt8} {x : It} (hp : onlyP p) (hB : B ≤ B') (hx : FitI B' x) (h1 : E.limits = D.limits) (h2 : E.items = mset D.items p x) : DPl B' E := by
  refine ⟨h1.trans h.lim, by rw [h2]; exact mset_nodup h.nd _ _, ?_, ?_⟩
  · rw [h2]
    intro y hy
    rcases mset_in hy with h3 | h3
    · exact h.only y h3
    · rw [h3]; exact hp
  · rw [h2]
    intro y hy
    rcases mem_mset hy with h3 | h3
    · exact (h.fit y h3).mono hB
    · rw [h3]; exact hx
theorem DPl.step (h : DPl B D) : DPl B D.step := h.like (by unfold Dk.step; split <;> rfl) (step_items D)
theorem DPl.set (h : DPl B D) {p : List UInt8} {x : It} (hp : onlyP p) (hB : B ≤ B') (hx : FitI B' x) : DPl B' (D.set p x) := h.put hp hB (x := { x with stamp := IntKind.i64.wrap (D.stamps + 1) }) hx rfl rfl
theorem DPl.del (h : DPl B D) (p : List UInt8) : DPl B (D.del p) :=
  ⟨h.lim, mdel_nodup h.nd p, fun x hx => h.only x ((mdel_sub _ _).subset hx), fun x hx => h.fit x ((mdel_sub _ _).subset hx)⟩
theorem DPl.len (h : DPl B D) : D.items.length ≤ 3 := by
  have hs : (D.items.map Prod.fst) ⊆ [vP, lP, tP] := fun p hp => by
    obtain ⟨x, hx, rfl⟩ := List.mem_map.1 hp
    rcases h.only x hx with e | e | e <;> rw [e] <;> simp
  have := few_len h.nd fun x hx => hs hx
  rw [List.length_map] at this
  exact this
theorem DPl.Sm (h : DPl B D) : D.Sm B := ⟨h.lim, fun x hx => (h.fit x hx).1⟩
theorem DPl.Kp (h : DPl B D) : D.Kp B := fun x hx => ⟨(h.fit x hx).1, (h.fit x hx).2.1, fun _ => (h.fit x hx).2.2⟩
theorem DPl.write (h : DPl B D) {p s : List UInt8} (hp : onlyP p) (hB : B ≤ B') (hs : s.length ≤ B') : DPl B' (D.write p s).2 := by
  have hat := h.at_ p
  unfold Dk.write
  repeat' split
  all_goals first
    | exact h.mono hB
    | exact h.step.mono hB
    | exact h.step.set hp hB ⟨hs, Nat.le_trans hat.2.1 hB, fun h2 => by cases h2⟩
theorem DPl.append (h : DPl B D) {p s : List UInt8} (hp : onlyP p) (hB : B + s.length ≤ B') : DPl B' (D.append p s).2 := by
  have hat := h.step.at_ p
  have hB2 : B ≤ B' := by omega
  unfold Dk.append
  repeat' split
  all_goals first
    | exact h.mono hB2
    | exact h.step.mono hB2
    | exact h.step.set hp hB2 ⟨by
        have := hat.1
        show ((D.step.at p).data ++ s).length ≤ B'
        rw [List.length_append]; omega, Nat.le_trans hat.2.1 hB2, fun h2 => by
        have := hat.2.2 h2
        show (D.step.at p).kept.length ≤ ((D.step.at p).data ++ s).length
        rw [List.length_append]; omega⟩
theorem DPl.sync (h : DPl B D) {p : List UInt8} (hp : onlyP p) : DPl B (D.sync p).2 := by
  have hat := h.step.at_ p
  unfold Dk.sync
  repeat' split
  all_goals first
    | exact h
    | exact h.step
    | exact h.step.put (x := { D.step.at p with kept := (D.step.at p).data, loose := false, anew := false }) hp (Nat.le_refl _) ⟨hat.1, hat.1, fun _ => Nat.le_refl _⟩ rfl rfl
theorem DPl.rename (h : DPl B D) {p r : List UInt8} (hr : onlyP r) : DPl B (D.rename p r).2 := by
  have hat := h.at_ p
  unfold Dk.rename
  repeat' split
  all_goals first
    | exact h
    | exact h.step
    | exact (h.step.del p).set hr (Nat.le_refl _) hat
theorem DPl.rot (h : DPl B D) {p : List UInt8} {bit : Int} (hp : onlyP p) : DPl B (D.rot p bit).2 := by
  have hat := h.at_ p
  unfold Dk.rot
  split
  · exact h
  · exact h.set hp (Nat.le_refl _) ⟨by rw [turnE_len]; exact hat.1, by rw [turnE_len]; exact hat.2.1, fun h2 => by rw [turnE_len, turnE_len]; exact hat.2.2 h2⟩
theorem lose1_DPl {loss : Int} {s : Int × Dk} {p : List UInt8} (h : DPl B s.2) (hp : onlyP p) : DPl B (lose1 loss s p).2 := by
  unfold lose1
  split
  · have hat := h.at_ p
    have := loseK_len loss (s.1 + 1) (s.2.at p) hat.1 hat.2.1
    exact h.set hp (Nat.le_refl _) ⟨this, this, fun _ => Nat.le_refl _⟩
  · exact h
theorem fold_DPl {loss : Int} : ∀ (ks : List (List UInt8)) (s : Int × Dk), DPl B s.2 → (∀ k ∈ ks, onlyP k) → DPl B (ks.foldl (lose1 loss) s).2
  | [], s, h, _ => h
  | k :: ks, s, h, hk => fold_DPl ks _ (lose1_DPl h (hk k (List.mem_cons_self ..))) fun q hq => hk q (List.mem_cons_of_mem _ hq)
theorem DPl.restart (h : DPl B D) (loss : Int) : DPl B (D.restart loss) := by
  have h2 : DPl B (D.lose loss).2 := fold_DPl D.keys (0, D) h fun k hk => by
    have := (List.mergeSort_perm (D.items.map Prod.fst) (fun x y => decide (x ≤ y))).mem_iff.1 hk
    obtain ⟨x, hx, rfl⟩ := List.mem_map.1 this
    exact h.only x hx
  exact h2.like rfl rfl
theorem DPl.arm (h : DPl B D) (n : Int) : DPl B (D.arm n) := h.like rfl rfl
theorem tP_eq : lP ++ [95, 116] = tP := rfl
theorem DPl.fill (h : DPl B D) {s : List UInt8} (hB : B ≤ B') (hs : s.length ≤ B') : DPl B' (D.fill lP s).2 := by
  unfold Dk.fill
  rw [tP_eq]
  have hw := h.write (p := tP) (.inr (.inr rfl)) hB hs
  repeat' split
  all_goals first
    | exact hw
    | exact hw.sync (.inr (.inr rfl))
    | exact (hw.sync (.inr (.inr rfl))).rename (.inr (.inl rfl))
theorem DPl.add (h : DPl B D) {G : Lg} {r : List UInt8} (hp : G.p = lP) (hB : B + (packE r).length ≤ B') : DPl B' (walAdd G D r).2.2 := by
  unfold walAdd
  rw [hp]
  have ha := h.append (p := lP) (s := packE r) (.inr (.inl rfl)) hB
  repeat' split
  all_goals first
    | exact ha
    | exact ha.sync (.inr (.inl rfl))
theorem DPl.read (h : DPl B D) (p : List UInt8) : (D.read p).1.length ≤ B := by
  have hat := h.at_ p
  unfold Dk.read
  repeat' split
  all_goals first | exact Nat.zero_le _ | exact hat.1
theorem DPl.open_ (h : DPl B D) : DPl B (walOpen D lP).2.2 := by
  have hr := h.read lP
  unfold walOpen
  repeat' split
  all_goals first
    | exact h
    | exact h.fill (Nat.le_refl _) (Nat.zero_le _)
    | exact h.fill (Nat.le_refl _) (by rw [List.length_take]; omega)
end
end Go.Proofs.YtccfiohagbneaaaGreatDoor

/- What is proved: what a journal tells of damage. Conditions: none. -/
set_option linter.unusedSimpArgs false
set_option linter.unusedVariables false
namespace Go.Proofs.YtccfiohagbneaaaGreatDoor
open Go Go.J Go.RowKit

set_option maxHeartbeats 4000000 in
set_option maxRecDepth 100000 in
theorem damaged_c {L q : Nat} {G : Lg} {fp : List Nat} {w0 : World} (hi : InL w0 [lgC L q G fp]) :
    Cal Tryz.prog 31 [.pointer (some ⟨L, 0, none⟩)] w0 (fun v w' => v = .bool G.dmg ∧ MutL w0 w' [lgC L q G fp] [lgC L q G fp]) := by
  refine Cal.mkL hi (by kernel_rfl) Tryz.func31 rfl rfl fun hS => ?_
  obtain ⟨_, ⟨A, cap, rfl⟩, hfp, hS⟩ := St.objOpen hS
  replace hS : St w0 _ w0 [.box L 112 [.pointer (some ⟨q, 0, none⟩), str G.p, .slice A G.recs.length cap, .bool G.dmg], .own (.slice A G.recs.length cap) 9 1 G.recs.length (strs G.recs)] _ := hS
  repeat' (first
    | (show WL _ _ _ _ _ _ _; first
      | refine WL.pure rfl rfl rfl rfl ?_
      | refine WL.nil ?_
      | refine WL.load hS rfl rfl (LdOk.box (by repeat (first | exact List.Mem.head _ | apply List.Mem.tail)) rfl) rfl rfl rfl ?_)
    | (show WC _ _ _ _ _ _; first
      | refine WC.seq ?_
      | refine WC.region ?_
      | refine WC.ret ?_)
    | refine seqQ_n ?_)
  have hS := St.objClose (φ := lgφ L q G) (H := []) hS ⟨A, cap, rfl⟩
  rw [← hfp] at hS
  exact fin1r rfl rfl ⟨by simp, hS.mutLp (by repeat (first | exact Pulls.nil | (apply Pulls.cons; focus (repeat (first | exact Pull.here | apply Pull.there)))))⟩
end Go.Proofs.YtccfiohagbneaaaGreatDoor

/- What is proved: when two lists of texts are told to be alike. Conditions: none. -/
set_option linter.unusedSimpArgs false
set_option linter.unusedVariables false
namespace Go.Proofs.YtccfiohagbneaaaGreatDoor
open Go Go.J Go.RowKit

theorem list_ext_get {α : Type} {xs ys : List α} (hl : xs.length = ys.length) (h : ∀ j (h1 : j < xs.length) (h2 : j < ys.length), xs[j] = ys[j]) : xs = ys := List.ext_getElem hl h
set_option maxHeartbeats 4000000 in
set_option maxRecDepth 100000 in
theorem same_c (xs ys : List (List UInt8)) {A B : Option Addr} {ca cb : Nat} {w0 : World} (hA : SlAt cStr (Old w0) w0 A xs) (hB : SlAt cStr (Old w0) w0 B ys) (hlx : xs.length ≤ 4611686018427387904) :
    Cal Tryz.prog 30 [.slice A xs.length ca, .slice B ys.length cb] w0 (fun v w' => Upd [] w0 w' ∧ v = .bool (decide (xs = ys))) := by
  refine Cal.mk' (by kernel_rfl) Tryz.func30 rfl rfl fun hS => ?_
  by_cases hl : xs.length = ys.length
  · repeat' (first
      | (show WL _ _ _ _ _ _ _; first
        | refine WL.pure rfl rfl rfl rfl ?_
        | refine WL.nil ?_)
      | (show WC _ _ _ _ _ _; first
        | refine WC.seq ?_
        | refine WC.region ?_
        | refine WC.block ?_
        | refine WC.skip ?_
        | refine WC.condF rfl (decide_eq_false (by first | with_reducible assumption | omega)) ?_)
      | refine seqQ_n ?_)
    refine WC.loop (σ := Nat) [0, 1] (fun k => [(5, .int .i64 (k : Int))]) (fun k w => k ≤ xs.length ∧ (∀ j (h1 : j < xs.length) (h2 : j < ys.length), j < k → xs[j] = ys[j]) ∧ St w0 [] w [] [⟨w0, Old w0⟩]) (fun k => xs.length - k) 0 ⟨Nat.zero_le _, fun j h1 h2 hj => absurd hj (Nat.not_lt_zero _), hS⟩ ⟨rfl, trivial⟩ ?_
    clear hS
    rintro k g w ⟨hk, hall, hS⟩
    obtain ⟨Hall, rfl⟩ : ∃ h : (∀ j (h1 : j < xs.length) (h2 : j < ys.length), j < k → xs[j] = ys[j]), h = hall := ⟨_, rfl⟩
    by_cases hlt : k < xs.length
    · have hlt2 : k < ys.length := by omega
      obtain ⟨b1, o1, e1, rfl, f1, r1, rfl⟩ := hA.at_ hlt
      obtain ⟨b2, o2, e2, rfl, f2, r2, rfl⟩ := hB.at_ hlt2
      change w0.rangeAt b1 (o1 + k * 1) [str xs[k]] at r1
      change w0.rangeAt b2 (o2 + k * 1) [str ys[k]] at r2
      by_cases he : xs[k] = ys[k]
      · have hnx : ∀ j (h1 : j < xs.length) (h2 : j < ys.length), j < k + 1 → xs[j] = ys[j] := fun j h1 h2 hj => if e : j = k then (by subst e; exact he) else Hall j h1 h2 (by omega)
        clear Hall
        generalize xs[k] = x at *
        generalize ys[k] = y at *
        subst he
        repeat' (first
          | (show WL _ _ _ _ _ _ _; first
            | refine WL.pure rfl rfl rfl rfl ?_
            | refine WL.nil ?_
            | refine WL.add rfl rfl rfl (by omega) rfl rfl rfl ?_)
          | (show WC _ _ _ _ _ _; first
            | refine WC.seq ?_
            | refine WC.region ?_
            | refine WC.block ?_
            | refine WC.skip ?_
            | (show WC _ _ (Code.region _ (List.toArray [_, _, _, _, _, _, _, _, _]) true) _ _ _; refine WC.drawS hS [0, 1, 2, 3, 4, 5, 6, 7, 8] [0, 1, 2, 3, 4, 5, 6, 7, 8] (by kernel_rfl) (by kernel_rfl) ?_; clear hS; intro w hS hM)
            | refine WC.condT rfl (decide_eq_true (by first | with_reducible assumption | omega)) ?_
            | refine WC.condF rfl (by first | (simp; done) | (simp; omega)) ?_)
          | (show WD _ _ _ _ _ _ _ _ _; first
            | refine WD.pure rfl rfl rfl rfl rfl ?_
            | refine WD.nil ?_
            | (refine WD.load rfl rfl (LdOk.snap0 f1 r1 (by repeat (first | exact List.Mem.head _ | apply List.Mem.tail)) rfl) rfl rfl rfl rfl ?_)
            | (refine WD.load rfl rfl (LdOk.snap0 f2 r2 (by repeat (first | exact List.Mem.head _ | apply List.Mem.tail)) rfl) rfl rfl rfl rfl ?_)
            | refine WD.index rfl rfl rfl rfl (by first | with_reducible assumption | omega) rfl rfl rfl rfl rfl ?_)
          | refine seqQ_n ?_
          | refine blkQ_n ?_)
        exact rndQ_n (k + 1) ⟨by omega, hnx, hS⟩ (by omega) ⟨vint (by omega), trivial⟩ ⟨rfl, rfl, trivial⟩
      · have hne : ¬ xs = ys := fun h => he (by subst h; rfl)
        clear Hall
        generalize xs[k] = x at *
        generalize ys[k] = y at *
        repeat' (first
          | (show WL _ _ _ _ _ _ _; first
            | refine WL.pure rfl rfl rfl rfl ?_
            | refine WL.nil ?_)
          | (show WC _ _ _ _ _ _; first
            | refine WC.seq ?_
            | refine WC.region ?_
            | refine WC.block ?_
            | refine WC.skip ?_
            | refine WC.ret ?_
            | (show WC _ _ (Code.region _ (List.toArray [_, _, _, _, _, _, _, _, _]) true) _ _ _; refine WC.drawS hS [0, 1, 2, 3, 4, 5, 6, 7, 8] [0, 1, 2, 3, 4, 5, 6, 7, 8] (by kernel_rfl) (by kernel_rfl) ?_; clear hS; intro w hS hM)
            | refine WC.condT rfl (decide_eq_true (by first | with_reducible assumption | omega)) ?_)
          | (show WD _ _ _ _ _ _ _ _ _; first
            | refine WD.pure rfl rfl rfl rfl rfl ?_
            | refine WD.nil ?_
            | (refine WD.load rfl rfl (LdOk.snap0 f1 r1 (by repeat (first | exact List.Mem.head _ | apply List.Mem.tail)) rfl) rfl rfl rfl rfl ?_)
            | (refine WD.load rfl rfl (LdOk.snap0 f2 r2 (by repeat (first | exact List.Mem.head _ | apply List.Mem.tail)) rfl) rfl rfl rfl rfl ?_)
            | refine WD.index rfl rfl rfl rfl (by first | with_reducible assumption | omega) rfl rfl rfl rfl rfl ?_)
          | refine seqQ_n ?_
          | refine seqQ_r ?_
          | refine blkQ_r ?_
          | refine rndQ_r ?_)
        exact fin1r rfl rfl ⟨hS.upd, vbool (by simp [hne])⟩
    · have heq : xs = ys := list_ext_get hl fun j h1 h2 => Hall j h1 h2 (by omega)
      clear Hall
      repeat' (first
        | (show WL _ _ _ _ _ _ _; first
          | refine WL.pure rfl rfl rfl rfl ?_
          | refine WL.nil ?_)
        | (show WC _ _ _ _ _ _; first
          | refine WC.seq ?_
          | refine WC.region ?_
          | refine WC.exit ?_
          | refine WC.ret ?_
          | refine WC.condF rfl (decide_eq_false (by first | with_reducible assumption | omega)) ?_)
        | refine seqQ_n ?_
        | refine seqQ_x ?_
        | refine blkQ_hit rfl ?_
        | refine rndQ_x ?_)
      exact fin1r rfl rfl ⟨hS.upd, vbool (by simp [heq])⟩
  · have hne : ¬ xs = ys := fun h => hl (by rw [h])
    repeat' (first
      | (show WL _ _ _ _ _ _ _; first
        | refine WL.pure rfl rfl rfl rfl ?_
        | refine WL.nil ?_)
      | (show WC _ _ _ _ _ _; first
        | refine WC.seq ?_
        | refine WC.region ?_
        | refine WC.ret ?_
        | refine WC.condT rfl (decide_eq_true (by first | with_reducible assumption | omega)) ?_)
      | refine seqQ_n ?_
      | refine seqQ_r ?_)
    exact fin1r rfl rfl ⟨hS.upd, vbool (by simp [hne])⟩
theorem same_n (xs ys : List (List UInt8)) {A B : Option Addr} {ca cb n m : Nat} {w0 : World} (hn : n = xs.length) (hm : m = ys.length) (hA : SlAt cStr (Old w0) w0 A xs) (hB : SlAt cStr (Old w0) w0 B ys) (hlx : xs.length ≤ 4611686018427387904) :
    Cal Tryz.prog 30 [.slice A n ca, .slice B m cb] w0 (fun v w' => Upd [] w0 w' ∧ v = .bool (decide (xs = ys))) := by
  subst hn; subst hm; exact same_c xs ys hA hB hlx
end Go.Proofs.YtccfiohagbneaaaGreatDoor

/- What is proved: an argument that the form reads as data reads as plain data through the codecs, and how its bulk bounds it. Conditions: none. -/
set_option linter.unusedSimpArgs false
set_option linter.unusedVariables false
namespace Go.Proofs.YtccfiohagbneaaaGreatDoor
open Go Go.J Go.RowKit Go.ChangeShapes Go.WideShapes Go.Deep

def Opens {α : Type} (P : Program) (t : TypeId) (c : Cod α) (Q : α → Nat → Prop) : Prop :=
  ∀ {H : Type} (enc : TypeId × Value → H) (W : World) (fuel : Nat) (cs : List Value) (x : DataW H × List MemPlace), DataW.trod enc P W 0 (fun _ => true) true fuel t cs = some x → ∃ y, c.rd (Old W) W cs y ∧ Q y (Rows.uptoBulk x.1)
def QL {α : Type} (Q : α → Nat → Prop) (ys : List α) (b : Nat) : Prop := ∃ bs : List Nat, bs.length = ys.length ∧ (∀ i (h : i < ys.length) (h' : i < bs.length), Q ys[i] bs[i]) ∧ bs.sum + 1 ≤ b

theorem bulkAll_sum {H : Type} (l : List (DataW H)) : Rows.uptoBulkAll l = (l.map Rows.uptoBulk).sum := by
  induction l with
  | nil => simp [Rows.uptoBulkAll]
  | cons d l ih => simp [Rows.uptoBulkAll, ih]

theorem Opens.int {P : Program} {t : TypeId} (ht : P.underlying t = some (.int .i64)) : Opens P t cInt (fun n b => -9223372036854775808 ≤ n ∧ n ≤ 9223372036854775807 ∧ 1 ≤ b) := by
  intro H enc W fuel cs x h
  obtain ⟨n, rfl, rfl, hw⟩ := DataW.trod_int ht h
  refine ⟨n, rfl, ?_⟩
  have h1 := bounds_i64 hw
  exact ⟨h1.1, h1.2, by simp [Rows.uptoBulk]⟩
theorem Opens.str {P : Program} {t : TypeId} (ht : P.underlying t = some .string) : Opens P t cStr (fun s b => s.length + 1 ≤ b) := by
  intro H enc W fuel cs x h
  obtain ⟨s, rfl, rfl, hw⟩ := DataW.trod_string ht h
  exact ⟨s.data.toList, rfl, by simp [Rows.uptoBulk]⟩
theorem Opens.slice {α : Type} [Inhabited α] {P : Program} {t e : TypeId} {c : Cod α} {Q : α → Nat → Prop} (ht : P.underlying t = some (.slice e)) (he : P.cellsOf e = c.sz) (hs : 0 < c.sz) (ho : Opens P e c Q) : Opens P t (cSl c) (QL Q) := by
  intro H enc W fuel cs x h
  rcases open_slice ht h with ⟨rfl, rfl⟩ | ⟨a, len, cap, m, n, D, Pl, rfl, hb, hl, hm, hmm, rfl, hx⟩
  · exact ⟨[], ⟨none, 0, rfl, Nat.le_refl _, fun k hk => absurd hk (by simp)⟩, [], rfl, fun i h => absurd h (by simp), by simp [Rows.uptoBulk]⟩
  · have hml : len ≤ m := by rw [hmm]; simp; omega
    have key : ∀ i, i < len → ∃ y : α, (∃ es, c.rd (Old W) W es y ∧ (a.add (i * c.sz)).block < W.heap.size ∧ (∀ j v, es[j]? = some v → W.cell? ((a.add (i * c.sz)).add j) = some v)) ∧ Q y (Rows.uptoBulk (D i)) := by
      intro i hi
      obtain ⟨cs', hc, htr⟩ := hx i (by omega)
      rw [he] at hc
      obtain ⟨y, hy, hq⟩ := ho enc W n cs' _ htr
      obtain ⟨_, hlen, hat⟩ := World.cells?_some hc
      refine ⟨y, ⟨cs', hy, ?_, fun j v hv => ?_⟩, hq⟩
      · have h0 := hat 0 hs
        have hlt : 0 < cs'.length := by omega
        rw [List.getElem?_eq_getElem hlt] at h0
        have hlt' := World.block_lt_of_cell? W _ h0
        have e0 : ((a.add (i * c.sz)).add 0).block = (a.add (i * c.sz)).block := by simp [Addr.add]
        rwa [e0] at hlt'
      · have hj : j < cs'.length := (List.getElem?_eq_some_iff.1 hv).1
        rw [hat j (by omega)]; exact hv
    obtain ⟨Y, hY⟩ := choose_lt key
    have hspot : 0 < len → a.spot = none := fun h0 => by
      obtain ⟨es, hrd, hbl, hc⟩ := (hY 0 h0).1
      have hl := c.len hrd
      have h1 := hc 0 es[0] (List.getElem?_eq_getElem (by omega))
      have e : (a.add (0 * c.sz)).add 0 = a := by simp [Addr.add]
      rw [e] at h1
      unfold World.cell? at h1
      cases hsp : a.spot with
      | none => rfl
      | some s => simp [hsp] at h1; split at h1 <;> simp at h1
    refine ⟨(List.range len).map Y, ⟨some a, cap, by simp, by simpa using hl, fun k hk => ?_⟩, (List.range len).map fun i => Rows.uptoBulk (D i), by simp, fun i h h' => ?_, ?_⟩
    · have hk' : k < len := by simpa using hk
      obtain ⟨es, hrd, hbl, hc⟩ := (hY k hk').1
      have ha : a = ⟨a.block, a.off, none⟩ := by rw [← hspot (by omega)]
      refine ⟨a.block, a.off, es, by rw [← ha], ?_, fun j v hv => ?_, by simpa using hrd⟩
      · have : (a.add (k * c.sz)).block = a.block := by unfold Addr.add; split <;> rfl
        rw [this] at hbl; exact hbl
      · have := hc j v hv
        rw [Go.Deep.add_add, ha, Addr.add_mid] at this
        rw [← Nat.add_assoc] at this
        exact this
    · have hi : i < len := by simpa using h
      simpa using (hY i hi).2
    · simp only [Rows.uptoBulk, bulkAll_sum, List.map_map]
      have : ((List.range len).map (Rows.uptoBulk ∘ D)) = (List.range len).map fun i => Rows.uptoBulk (D i) := rfl
      rw [this]
      omega
section
variable {H : Type} {enc : TypeId × Value → H} {P : Program}
theorem post_of_below {f : Func} {s : ChangeSpec} {apart fresh handsOn again : Bool} {W W' : World} {args : Array Value} {v : Value} {ds gs : List (DataW H)} {before pa pv : List MemPlace}
    (hW : DataW.Whole enc P f.params.toList s.vars apart W args.toList ds gs before)
    (hres : ∀ (b : Nat) (sp : Nat → Bool) (hd : Bool), DataW.TrodAll enc P W' b sp hd f.resultTypes.toList (v.resultList f.resultTypes.size) (s.fn H (ds ++ gs)).results [])
    (hargs : ∀ sp : Nat → Bool, (∀ p ∈ before, sp p.block = true) → DataW.TrodAll enc P W' 0 sp true f.params.toList args.toList (s.fn H (ds ++ gs)).args pa)
    (hvars : ∀ sp : Nat → Bool, (∀ p ∈ before, sp p.block = true) → DataW.TrodVars enc P W' sp s.vars (s.fn H (ds ++ gs)).vars pv)
    (hps : before = pa ++ pv) (hb : Below W.heap.size W W')
    (hok : ∀ (j : Nat) (t : TypeId) (r : Value), f.resultTypes[j]? = some t → (v.resultList f.resultTypes.size)[j]? = some r → Value.okWide P W' .any 0 t r) :
    s.post enc P f apart fresh handsOn again W args v W' := by
  have hlt : ∀ p ∈ before, p.block < W.heap.size := fun p hp => hW.lt p hp
  have hold : ∀ p ∈ before, (fun b => decide (b < W.heap.size)) p.block = true := fun p hp => by simpa using hlt p hp
  refine ⟨ds, gs, before, [], pa, pv, hW, hres _ _ _, hargs _ hold, hvars _ hold, World.keptBut_mono (fun p hp => ⟨hp, ?_⟩) (hb.frame (· ∈ before)), fun _ => ?_⟩
  · rw [hps, List.mem_append] at hp
    exact Or.inr hp
  · obtain ⟨_, _, _, _, _, hz, hn⟩ := hW
    refine ⟨hok, _, _, ([] ++ pa) ++ pv, ⟨[] ++ pa, pv, trodAll_append (hargs _ (fun _ _ => rfl)) (hres _ _ _), hvars _ (fun _ _ => rfl), rfl, ?_, ?_⟩, ?_⟩
    · intro b off hp
      have hin : MemPlace.cell b off ∈ before := by rw [hps]; simpa using hp
      rw [hb.frozen (hlt _ hin)]
      exact hz b off hin
    · intro ha
      have := hn ha
      rw [hps] at this
      simpa using this
    · intro p hp _
      rw [hps]
      simpa using hp
end
theorem QL_sum {α : Type} {Q : α → Nat → Prop} {f : α → Nat} (hf : ∀ a b, Q a b → f a ≤ b) : ∀ {ys : List α} {b : Nat}, QL Q ys b → (ys.map f).sum + 1 ≤ b := by
  intro ys b ⟨bs, hl, hq, hs⟩
  have key : ∀ (ys : List α) (bs : List Nat), bs.length = ys.length → (∀ i (h : i < ys.length) (h' : i < bs.length), Q ys[i] bs[i]) → (ys.map f).sum ≤ bs.sum := by
    intro ys
    induction ys with
    | nil => intro bs _ _; simp
    | cons y ys ih =>
      intro bs hl hq
      rcases bs with _ | ⟨b, bs⟩
      · simp at hl
      · have h0 := hf _ _ (hq 0 (by simp) (by simp))
        have h1 := ih bs (by simpa using hl) (fun i h h' => hq (i + 1) (by simpa using h) (by simpa using h'))
        simp only [List.map_cons, List.sum_cons, List.getElem_cons_zero] at h0 h1 ⊢
        omega
  have := key ys bs hl hq
  omega
end Go.Proofs.YtccfiohagbneaaaGreatDoor

/- What is proved: how a statement's arguments open to plain data, and that a call which answers true and leaves old memory alone meets the law's form. Conditions: none. -/
set_option linter.unusedSimpArgs false
set_option linter.unusedVariables false
namespace Go.Proofs.YtccfiohagbneaaaGreatDoor
open Go Go.J Go.RowKit Go.ChangeShapes Go.WideShapes Go.ChangeAt Go.Deep

/-- how an argument of a type opens -/
def Arg {α : Type} (P : Program) (t : TypeId) (A : World → Value → α → Prop) (Q : α → Nat → Prop) : Prop :=
  ∀ {H : Type} (enc : TypeId × Value → H) (W : World) (base : Nat) (v : Value) (d : DataW H) (p : List MemPlace), Value.okWide P W .any base t v → DataW.Trod enc P W 0 (fun _ => true) true t v d p → ∃ y, A W v y ∧ Q y (Rows.uptoBulk d)

def AInt (_ : World) (v : Value) (n : Int) : Prop := v = .int .i64 n
def QInt (n : Int) (b : Nat) : Prop := -9223372036854775808 ≤ n ∧ n ≤ 9223372036854775807 ∧ 1 ≤ b
def AStr (_ : World) (v : Value) (s : List UInt8) : Prop := v = str s
def QStr (s : List UInt8) (b : Nat) : Prop := s.length + 1 ≤ b
def ASl {α : Type} (c : Cod α) (W : World) (v : Value) (xs : List α) : Prop := ∃ A cap, v = .slice A xs.length cap ∧ xs.length ≤ cap ∧ SlAt c (Old W) W A xs
def AAgg {α : Type} (c : Cod α) (W : World) (v : Value) (y : α) : Prop := ∃ cs, v = .agg ⟨cs⟩ ∧ c.rd (Old W) W cs y

theorem Arg.int {P : Program} {t : TypeId} (ht : P.underlying t = some (.int .i64)) : Arg P t AInt QInt := by
  intro H enc W base v d p hk hd
  obtain ⟨n, rfl⟩ := okWide_int ht hk
  obtain ⟨fuel, hf⟩ := hd
  obtain ⟨y, hy, hq⟩ := Opens.int ht enc W fuel _ _ hf
  have hy' : [Value.int .i64 n] = [.int .i64 y] := hy
  simp only [List.cons.injEq, Value.int.injEq, true_and, and_true] at hy'
  exact ⟨y, by rw [hy']; rfl, hq⟩
theorem Arg.str {P : Program} {t : TypeId} (ht : P.underlying t = some .string) : Arg P t AStr QStr := by
  intro H enc W base v d p hk hd
  obtain ⟨s, rfl⟩ := okWide_string ht hk
  obtain ⟨fuel, hf⟩ := hd
  obtain ⟨y, hy, hq⟩ := Opens.str ht enc W fuel _ _ hf
  have hy' : [Value.string s] = [Go.J.str y] := hy
  exact ⟨y, by show Value.string s = Go.J.str y; simpa using hy', hq⟩
theorem Arg.slice {α : Type} {P : Program} {t e : TypeId} {c : Cod α} {Q : List α → Nat → Prop} (ht : P.underlying t = some (.slice e)) (ho : Opens P t (cSl c) Q) : Arg P t (ASl c) Q := by
  intro H enc W base v d p hk hd
  obtain ⟨a, len, cap, rfl⟩ := okWide_slice ht hk
  obtain ⟨fuel, hf⟩ := hd
  obtain ⟨y, ⟨A, cap', e0, hcap, hsl⟩, hq⟩ := ho enc W fuel _ _ hf
  have e0' : [Value.slice a len cap] = [.slice A y.length cap'] := e0
  exact ⟨y, ⟨A, cap', by simpa using e0', hcap, hsl⟩, hq⟩
theorem Arg.agg {α : Type} {P : Program} {t : TypeId} {fs : Array Field} {c : Cod α} {Q : α → Nat → Prop} (ht : P.underlying t = some (.struct fs)) (ho : Opens P t c Q) : Arg P t (AAgg c) Q := by
  intro H enc W base v d p hk hd
  obtain ⟨cs, rfl, _⟩ := okWide_struct ht hk
  obtain ⟨fuel, hf⟩ := hd
  obtain ⟨y, hy, hq⟩ := ho enc W fuel _ _ hf
  exact ⟨y, ⟨cs.toList, by cases cs; rfl, hy⟩, hq⟩

theorem own : ownKnob Tryz.prog.godebug = none := by kernel_rfl
theorem laid : laidOutB Tryz.prog = true := by kernel_rfl

/-- arguments whose memory stays read as they did -/
theorem all_stays {H : Type} {enc : TypeId × Value → H} {P : Program} (hl : laidOutB P = true) {W W' : World} (hu : Upd [] W W') {sp : Nat → Bool} : ∀ {ts : List TypeId} {vs : List Value} {ds : List (DataW H)} {p : List MemPlace}, (ts.all fun t => P.readableRec t && decide (t < P.types.size)) = true →
    DataW.TrodAll enc P W 0 (fun _ => true) true ts vs ds p → (∀ x ∈ p, x.block < W.heap.size) → (∀ x ∈ p, sp x.block = true) → DataW.TrodAll enc P W' 0 sp true ts vs ds p
  | [], [], [], p, _, h, _, _ => h
  | t :: ts, vs, ds, p, hr, h, hlt, hsp => by
    obtain ⟨v, vs', d, ds', p1, q1, rfl, rfl, rfl, h1, h2⟩ := trodAll_cons h
    simp only [List.all_cons, Bool.and_eq_true] at hr
    refine trodAll_cons_mk ?_ (all_stays hl hu (by simpa using hr.2) h2 (fun x hx => hlt x (by simp [hx])) fun x hx => hsp x (by simp [hx]))
    exact WideElems.Trod_stays hl hr.1.1 (of_decide_eq_true hr.1.2) h1 (fun x hx => hu.below.same (hlt x (by simp [hx]))) (fun x hx => hsp x (by simp [hx]))
  | [], [], _ :: _, _, _, h, _, _ => by simp [DataW.TrodAll] at h
  | [], _ :: _, _, _, _, h, _, _ => by simp [DataW.TrodAll] at h
theorem all_len {H : Type} {enc : TypeId × Value → H} {P : Program} {W : World} {sp : Nat → Bool} : ∀ {ts : List TypeId} {vs : List Value} {ds : List (DataW H)} {p : List MemPlace}, DataW.TrodAll enc P W 0 sp true ts vs ds p → ds.length = ts.length
  | [], [], [], _, _ => rfl
  | t :: ts, vs, ds, p, h => by
    obtain ⟨v, vs', d, ds', p1, q1, rfl, rfl, rfl, h1, h2⟩ := trodAll_cons h
    simp [all_len h2]
  | [], [], _ :: _, _, h => by simp [DataW.TrodAll] at h
  | [], _ :: _, _, _, h => by simp [DataW.TrodAll] at h

theorem law_post {H : Type} {enc : TypeId × Value → H} {P : Program} (hl : laidOutB P = true) {f : Func} {s : ChangeSpec} {tb : TypeId} {W W' : World} {args : Array Value} {ds gs : List (DataW H)} {before : List MemPlace}
    (hb : P.underlying tb = some .bool) (hrt : f.resultTypes = #[tb]) (hread : (f.params.toList.all fun t => P.readableRec t && decide (t < P.types.size)) = true) (hv : s.vars = [])
    (hs : ∀ ds : List (DataW H), ds.length = f.params.toList.length → (s.fn H ds).results = [.lit (.bool true)] ∧ (s.fn H ds).args = ds ∧ (s.fn H ds).vars = [])
    (hW : DataW.Whole enc P f.params.toList s.vars false W args.toList ds gs before) (hu : Upd [] W W') : s.post enc P f false true false false W args (.bool true) W' := by
  obtain ⟨p, q, hA, hV, rfl, hfz, hnd⟩ := id hW
  have hV' := hV
  rw [hv] at hV'
  obtain ⟨rfl, rfl⟩ := trodVars_none hV'
  have hlen := all_len hA
  obtain ⟨h1, h2, h3⟩ := hs ds hlen
  have hlt : ∀ x ∈ p, x.block < W.heap.size := fun x hx => hW.lt x (by simp [hx])
  refine post_of_below (pa := p) (pv := []) hW (fun _ _ _ => ?_) (fun sp hsp => ?_) (fun sp hsp => ?_) rfl hu.below (fun j t r hj hr => ?_)
  · rw [hrt, List.append_nil, h1]
    exact trodAll_cons_mk (shut_bool hb _) trodAll_mk0
  · rw [List.append_nil, h2]
    exact all_stays hl hu hread hA hlt fun x hx => hsp x (by simp [hx])
  · rw [hv, List.append_nil, h3]
    exact rfl
  · exact ok_one hrt rfl (okWide_bool_mk hb _) j t r hj hr
end Go.Proofs.YtccfiohagbneaaaGreatDoor

/- What is proved: the laws WalNil and WalRots answer true. Conditions: texts of bounded length. -/
set_option linter.unusedSimpArgs false
set_option linter.unusedVariables false
namespace Go.Proofs.YtccfiohagbneaaaGreatDoor
open Go Go.J Go.RowKit

set_option maxHeartbeats 4000000 in
set_option maxRecDepth 100000 in
theorem made_c (w0 : World) : Cal Tryz.prog 9 [] w0 (fun v w' => ∃ q mb lb, v = .pointer (some ⟨q, 0, none⟩) ∧ MutL w0 w' [] [dkC q mb lb Dv0]) := by
  refine Cal.mk' (by kernel_rfl) Tryz.func9 rfl rfl fun hS => ?_
  repeat' (first
    | (show WL _ _ _ _ _ _ _; first
      | refine WL.pure rfl rfl rfl rfl ?_
      | refine WL.nil ?_
      | (refine WL.callG rfl rfl (dnew_c _) rfl rfl rfl ?_; rintro v w ⟨hu, q, mb, lb, rfl, hn⟩; replace hS := hS.new hu hn; clear hu hn)
      | (refine WL.callL (D := [dkC q mb lb Dk0]) hS (by repeat (first | exact Pulls.nil | (apply Pulls.cons; focus (repeat (first | exact Pull.here | apply Pull.there))))) rfl rfl (fun hI => mkdir_c [118] hI.head hI.headB (by decide)) rfl rfl rfl ?_; rintro v w ⟨rfl, hm⟩ hS; replace hS := hS _ (.of1 hm); clear hm; rw [mkdir_v] at hS ⊢))
    | (show WC _ _ _ _ _ _; first
      | refine WC.seq ?_
      | refine WC.region ?_
      | refine WC.skip ?_
      | refine WC.ret ?_
      | refine WC.condF rfl (by decide) ?_)
    | refine seqQ_n ?_)
  exact fin1r rfl rfl ⟨_, _, _, rfl, St.mutLOf (D := []) (H := []) hS⟩
theorem strOne : (frames [[111, 110, 101]] : List UInt8) = packE [111, 110, 101] := frames_one _
section
variable (w0 : World)
set_option maxHeartbeats 4000000 in
set_option maxRecDepth 100000 in
theorem addNil_c (r : List UInt8) : Cal Tryz.prog 15 [.pointer none, str r] w0 (fun v w' => Upd [] w0 w' ∧ v = .int .i64 1) := by
  refine Cal.mk' (by kernel_rfl) Tryz.func15 rfl rfl fun hS => ?_
  repeat' (first
    | (show WL _ _ _ _ _ _ _; first
      | refine WL.pure rfl rfl rfl rfl ?_
      | refine WL.nil ?_)
    | (show WC _ _ _ _ _ _; first
      | refine WC.seq ?_
      | refine WC.region ?_
      | refine WC.ret ?_
      | refine WC.condT rfl (by with_reducible rfl) ?_)
    | refine seqQ_n ?_
    | refine seqQ_r ?_)
  exact fin1r rfl rfl ⟨hS.upd, rfl⟩
set_option maxHeartbeats 4000000 in
set_option maxRecDepth 100000 in
theorem resetNil_c : Cal Tryz.prog 17 [.pointer none] w0 (fun v w' => Upd [] w0 w' ∧ v = .int .i64 1) := by
  refine Cal.mk' (by kernel_rfl) Tryz.func17 rfl rfl fun hS => ?_
  repeat' (first
    | (show WL _ _ _ _ _ _ _; first
      | refine WL.pure rfl rfl rfl rfl ?_
      | refine WL.nil ?_)
    | (show WC _ _ _ _ _ _; first
      | refine WC.seq ?_
      | refine WC.region ?_
      | refine WC.ret ?_
      | refine WC.condT rfl (by with_reducible rfl) ?_)
    | refine seqQ_n ?_
    | refine seqQ_r ?_)
  exact fin1r rfl rfl ⟨hS.upd, rfl⟩
set_option maxHeartbeats 4000000 in
set_option maxRecDepth 100000 in
theorem recordsNil_c : Cal Tryz.prog 29 [.pointer none] w0 (fun v w' => Upd [] w0 w' ∧ v = .slice none 0 0) := by
  refine Cal.mk' (by kernel_rfl) Tryz.func29 rfl rfl fun hS => ?_
  repeat' (first
    | (show WL _ _ _ _ _ _ _; first
      | refine WL.pure rfl rfl rfl rfl ?_
      | refine WL.nil ?_)
    | (show WC _ _ _ _ _ _; first
      | refine WC.seq ?_
      | refine WC.region ?_
      | refine WC.ret ?_
      | refine WC.condT rfl (by with_reducible rfl) ?_)
    | refine seqQ_n ?_
    | refine seqQ_r ?_)
  exact fin1r rfl rfl ⟨hS.upd, rfl⟩
set_option maxHeartbeats 4000000 in
set_option maxRecDepth 100000 in
theorem damagedNil_c : Cal Tryz.prog 31 [.pointer none] w0 (fun v w' => Upd [] w0 w' ∧ v = .bool false) := by
  refine Cal.mk' (by kernel_rfl) Tryz.func31 rfl rfl fun hS => ?_
  repeat' (first
    | (show WL _ _ _ _ _ _ _; first
      | refine WL.pure rfl rfl rfl rfl ?_
      | refine WL.nil ?_
      | refine WL.skip rfl rfl rfl ?_)
    | (show WC _ _ _ _ _ _; first
      | refine WC.seq ?_
      | refine WC.region ?_
      | refine WC.ret ?_)
    | refine seqQ_n ?_)
  exact fin1r rfl rfl ⟨hS.upd, rfl⟩
end
set_option maxHeartbeats 8000000 in
set_option maxRecDepth 100000 in
theorem wawake_c (w0 : World) : Cal Tryz.prog 11 [] w0 (fun v w' => Upd [] w0 w' ∧ v = .bool true) := by
  refine Cal.mk' (by kernel_rfl) Tryz.func11 rfl rfl fun hS => ?_
  obtain ⟨s', st', sp', ha⟩ := add_calm ⟨lP, [], false⟩ rfl [] [] [111, 110, 101] false false 2 4 2
  have hp1 : (packE [111, 110, 101]).length ≤ 18 := by rw [packE_len]; have := putN_len10 (n := 3) (by decide); simp; omega
  have ho := open_whole [[111, 110, 101]] (by simp) (packE [111, 110, 101]) false false s' st' sp' (-1)
  rw [frames_one] at ho
  repeat' (first
    | (show WL _ _ _ _ _ _ _; first
      | refine WL.pure rfl rfl rfl rfl ?_
      | refine WL.nil ?_
      | (refine WL.callL (D := []) hS (by repeat (first | exact Pulls.nil | (apply Pulls.cons; focus (repeat (first | exact Pull.here | apply Pull.there))))) rfl rfl (fun hI => made_c _) rfl rfl rfl ?_; rintro v w ⟨q, mb, lb, rfl, hm⟩ hS; replace hS := hS _ hm; clear hm)
      | (refine WL.callL (D := [dkC q mb lb Dv0]) hS (by repeat (first | exact Pulls.nil | (apply Pulls.cons; focus (repeat (first | exact Pull.here | apply Pull.there))))) rfl rfl (fun hI => open_c lP hI (by decide) Sm_v) rfl rfl rfl ?_; rintro v w hR hS; rw [open_new] at hR; obtain ⟨L, fp, rfl, hm⟩ := hR; replace hS := hS _ hm; clear hm)
      | (refine WL.callL (D := [lgC L q ⟨lP, [], false⟩ fp, dkC q mb lb _]) hS (by repeat (first | exact Pulls.nil | (apply Pulls.cons; focus (repeat (first | exact Pull.here | apply Pull.there))))) rfl rfl (fun hI => add_c [111, 110, 101] hI ha (by decide) rfl (by decide) (by decide) (by decide)) rfl rfl rfl ?_; rintro v w ⟨rfl, fp', hm⟩ hS; replace hS := hS _ hm; clear hm)
      | (refine WL.callL (D := [dkC q mb lb _]) hS (by repeat (first | exact Pulls.nil | (apply Pulls.cons; focus (repeat (first | exact Pull.here | apply Pull.there))))) rfl rfl (fun hI => open_c lP hI (by decide) (Sm_l (by rw [List.nil_append]; omega))) rfl rfl rfl ?_; rintro v w hR hS; rw [List.nil_append, ho] at hR; obtain ⟨L2, fp2, rfl, hm⟩ := hR; replace hS := hS _ hm; clear hm)
      | (refine WL.callL (D := [lgC L2 q ⟨lP, [[111, 110, 101]], false⟩ fp2]) hS (by repeat (first | exact Pulls.nil | (apply Pulls.cons; focus (repeat (first | exact Pull.here | apply Pull.there))))) rfl rfl (fun hI => records_c hI (by decide)) rfl rfl rfl ?_; rintro v w ⟨A, cap, rfl, hm⟩ hS; replace hS := hS _ hm; clear hm)
      | (refine WL.calls hS rfl rfl (same_c [[111, 110, 101]] [[111, 110, 101]] (hS.ownSl (l := [[111, 110, 101]]) (enc := fun s => [str s]) (hsz := fun _ => rfl) (by decide) (by repeat (first | exact List.Mem.head _ | apply List.Mem.tail))) (hS.boxSl [[111, 110, 101]] (enc := fun s => [str s]) (hsz := fun _ => rfl) (by decide) (by repeat (first | exact List.Mem.head _ | apply List.Mem.tail)) (by decide)) (by decide)) rfl rfl rfl ?_; rintro v w rfl hS)
      | (refine WL.callL (D := [lgC L2 q ⟨lP, [[111, 110, 101]], false⟩ fp2]) hS (by repeat (first | exact Pulls.nil | (apply Pulls.cons; focus (repeat (first | exact Pull.here | apply Pull.there))))) rfl rfl (fun hI => damaged_c hI) rfl rfl rfl ?_; rintro v w ⟨rfl, hm⟩ hS; replace hS := hS _ hm; clear hm)
      | (refine WL.slit hS rfl rfl rfl rfl rfl ?_; intro w b hS))
    | (show WC _ _ _ _ _ _; first
      | refine WC.seq ?_
      | refine WC.region ?_
      | refine WC.skip ?_
      | refine WC.ret ?_
      | refine WC.condF rfl (by with_reducible rfl) ?_
      | refine WC.condF rfl (by decide) ?_)
    | refine seqQ_n ?_)
  exact fin1r rfl rfl ⟨hS.upd, rfl⟩
end Go.Proofs.YtccfiohagbneaaaGreatDoor
