/- What is proved: contracts and plain facts that the law leans on (texts put together). Conditions: as each names them. -/
import Derived.Test.YtccfiohagbneaaaGreatDoorM4
import Derived.Shelf.SlIter.Nil
import Derived.Shelf.SortM.Plain
import Derived.Shelf.SortM.SortNone
import Derived.Shelf.Strconv.Atoi
import Derived.Shelf.Strconv.Itoa3
import Derived.Shelf.Small.Strs
import Derived.Test.YtccfiohagbneaaaGreatDoorProg
set_option linter.unusedSimpArgs false
set_option linter.unusedVariables false
set_option linter.unusedSectionVars false
set_option maxHeartbeats 64000000
set_option maxRecDepth 100000
namespace Go.Proofs
open Go.Shelf
def Tryz.sortedL_ren : Go.Shelf.Ren := ⟨fun | 6 => 75 | 8 => 137 | 9 => 138 | 11 => 179 | 13 => 181 | 12 => 180 | 23 => 211 | 24 => 212 | 14 => 202 | 15 => 203 | 16 => 204 | 17 => 205 | 18 => 206 | 19 => 207 | 20 => 208 | 21 => 209 | 22 => 210 | 25 => 226 | 26 => 227 | 27 => 228 | 28 => 229 | 29 => 230 | 30 => 231 | 31 => 240 | n => n, fun | 26 => 9 | 28 => 125 | 24 => 56 | 0 => 0 | 3 => 3 | 37 => 190 | 48 => 188 | 50 => 129 | 4 => 4 | 40 => 261 | 39 => 260 | 45 => 193 | 5 => 5 | 9 => 9 | 51 => 276 | 55 => 280 | 57 => 288 | 58 => 289 | 33 => 107 | n => n, fun | n => n⟩
theorem Tryz.sortedL : Go.Proofs.SlLaysZ.n6 Tryz.prog Tryz.sortedL_ren := {
  mixed := by kernel_rfl
  f6 := ⟨Tryz.f75.name, by decide, Tryz.func75.trans (congrArg some (by kernel_rfl))⟩
  f8 := ⟨Tryz.f137.name, by decide, Tryz.func137.trans (congrArg some (by kernel_rfl))⟩
  f11 := ⟨Tryz.f179.name, by decide, Tryz.func179.trans (congrArg some (by kernel_rfl))⟩
  t0 := Tryz.underlying0
  a0 := Tryz.isAgg0
  z0 := Tryz.sizeOf0
  v0 := Tryz.zeroValue0
  t24 := Tryz.underlying56
  a24 := Tryz.isAgg56
  z24 := Tryz.sizeOf56
  v24 := Tryz.zeroValue56
  t26 := Tryz.underlying9
  a26 := Tryz.isAgg9
  z26 := Tryz.sizeOf9
  v26 := Tryz.zeroValue9
  t28 := Tryz.underlying125
  a28 := Tryz.isAgg125
  z28 := Tryz.sizeOf125
  v28 := Tryz.zeroValue125
  i26 := by kernel_rfl }
def Tryz.sortL_ren : Go.Shelf.Ren := ⟨fun | 6 => 138 | 8 => 181 | 9 => 180 | 19 => 211 | 20 => 212 | 21 => 202 | 22 => 203 | 23 => 204 | 24 => 205 | 25 => 206 | 26 => 207 | 27 => 208 | 28 => 209 | 29 => 210 | 36 => 226 | 31 => 227 | 32 => 228 | 37 => 229 | 38 => 230 | 39 => 231 | 41 => 240 | n => n, fun | 27 => 56 | 29 => 9 | 3 => 3 | 32 => 190 | 26 => 56 | 0 => 0 | 44 => 188 | 46 => 129 | 4 => 4 | 36 => 261 | 35 => 260 | 41 => 193 | 5 => 5 | 9 => 9 | 53 => 276 | 57 => 280 | 63 => 288 | 64 => 289 | n => n, fun | n => n⟩
theorem Tryz.sortL : Go.Proofs.SlLaysM.n6 Tryz.prog Tryz.sortL_ren := {
  mixed := by kernel_rfl
  f6 := ⟨Tryz.f138.name, by decide, Tryz.func138.trans (congrArg some (by kernel_rfl))⟩
  f8 := Tryz.func181.trans (congrArg some (by kernel_rfl))
  f9 := ⟨Tryz.f180.name, by decide, Tryz.func180.trans (congrArg some (by kernel_rfl))⟩
  f19 := Tryz.func211.trans (congrArg some (by kernel_rfl))
  f20 := Tryz.func212.trans (congrArg some (by kernel_rfl))
  f21 := ⟨Tryz.f202.name, by decide, Tryz.func202.trans (congrArg some (by kernel_rfl))⟩
  f22 := ⟨Tryz.f203.name, by decide, Tryz.func203.trans (congrArg some (by kernel_rfl))⟩
  f23 := ⟨Tryz.f204.name, by decide, Tryz.func204.trans (congrArg some (by kernel_rfl))⟩
  f24 := ⟨Tryz.f205.name, by decide, Tryz.func205.trans (congrArg some (by kernel_rfl))⟩
  f25 := ⟨Tryz.f206.name, by decide, Tryz.func206.trans (congrArg some (by kernel_rfl))⟩
  f26 := ⟨Tryz.f207.name, by decide, Tryz.func207.trans (congrArg some (by kernel_rfl))⟩
  f27 := ⟨Tryz.f208.name, by decide, Tryz.func208.trans (congrArg some (by kernel_rfl))⟩
  f28 := ⟨Tryz.f209.name, by decide, Tryz.func209.trans (congrArg some (by kernel_rfl))⟩
  f29 := ⟨Tryz.f210.name, by decide, Tryz.func210.trans (congrArg some (by kernel_rfl))⟩
  f31 := Tryz.func227.trans (congrArg some (by kernel_rfl))
  f32 := Tryz.func228.trans (congrArg some (by kernel_rfl))
  f36 := ⟨Tryz.f226.name, by decide, Tryz.func226.trans (congrArg some (by kernel_rfl))⟩
  f37 := ⟨Tryz.f229.name, by decide, Tryz.func229.trans (congrArg some (by kernel_rfl))⟩
  f38 := ⟨Tryz.f230.name, by decide, Tryz.func230.trans (congrArg some (by kernel_rfl))⟩
  f39 := ⟨Tryz.f231.name, by decide, Tryz.func231.trans (congrArg some (by kernel_rfl))⟩
  f41 := ⟨Tryz.f240.name, by decide, Tryz.func240.trans (congrArg some (by kernel_rfl))⟩
  t0 := Tryz.underlying0
  a0 := Tryz.isAgg0
  z0 := Tryz.sizeOf0
  v0 := Tryz.zeroValue0
  t3 := Tryz.underlying3
  a3 := Tryz.isAgg3
  z3 := Tryz.sizeOf3
  v3 := Tryz.zeroValue3
  t4 := Tryz.underlying4
  a4 := Tryz.isAgg4
  z4 := Tryz.sizeOf4
  v4 := Tryz.zeroValue4
  t5 := Tryz.underlying5
  a5 := Tryz.isAgg5
  z5 := Tryz.sizeOf5
  v5 := Tryz.zeroValue5
  t9 := Tryz.underlying9
  a9 := Tryz.isAgg9
  z9 := Tryz.sizeOf9
  v9 := Tryz.zeroValue9
  t26 := Tryz.underlying56
  a26 := Tryz.isAgg56
  z26 := Tryz.sizeOf56
  v26 := Tryz.zeroValue56
  t27 := Tryz.underlying56
  a27 := Tryz.isAgg56
  z27 := Tryz.sizeOf56
  v27 := Tryz.zeroValue56
  t29 := Tryz.underlying9
  a29 := Tryz.isAgg9
  z29 := Tryz.sizeOf9
  v29 := Tryz.zeroValue9
  t32 := Tryz.underlying190
  a32 := Tryz.isAgg190
  z32 := Tryz.sizeOf190
  v32 := Tryz.zeroValue190
  t35 := Tryz.underlying260
  a35 := Tryz.isAgg260
  z35 := Tryz.sizeOf260
  v35 := Tryz.zeroValue260
  t36 := Tryz.underlying261
  a36 := Tryz.isAgg261
  z36 := Tryz.sizeOf261
  v36 := Tryz.zeroValue261
  t41 := Tryz.underlying193
  a41 := Tryz.isAgg193
  z41 := Tryz.sizeOf193
  v41 := Tryz.zeroValue193
  t44 := Tryz.underlying188
  a44 := Tryz.isAgg188
  z44 := Tryz.sizeOf188
  v44 := Tryz.zeroValue188
  t46 := Tryz.underlying129
  a46 := Tryz.isAgg129
  z46 := Tryz.sizeOf129
  v46 := Tryz.zeroValue129
  t53 := Tryz.underlying276
  a53 := Tryz.isAgg276
  z53 := Tryz.sizeOf276
  v53 := Tryz.zeroValue276
  t57 := Tryz.underlying280
  a57 := Tryz.isAgg280
  z57 := Tryz.sizeOf280
  v57 := Tryz.zeroValue280
  t63 := Tryz.underlying288
  a63 := Tryz.isAgg288
  z63 := Tryz.sizeOf288
  v63 := Tryz.zeroValue288
  t64 := Tryz.underlying289
  a64 := Tryz.isAgg289
  z64 := Tryz.sizeOf289
  v64 := Tryz.zeroValue289 }
def Tryz.keysL_ren : Go.Shelf.Ren := ⟨fun | 7 => 76 | 10 => 139 | n => n, fun | 23 => 119 | 26 => 9 | 3 => 128 | 28 => 125 | 0 => 0 | 27 => 124 | 33 => 107 | 4 => 4 | n => n, fun | n => n⟩
theorem Tryz.keysL : Go.Proofs.SlLaysZ.n7 Tryz.prog Tryz.keysL_ren := {
  mixed := by kernel_rfl
  f7 := ⟨Tryz.f76.name, by decide, Tryz.func76.trans (congrArg some (by kernel_rfl))⟩
  f10 := ⟨Tryz.f139.name, by decide, Tryz.func139.trans (congrArg some (by kernel_rfl))⟩
  t0 := Tryz.underlying0
  a0 := Tryz.isAgg0
  z0 := Tryz.sizeOf0
  v0 := Tryz.zeroValue0
  t4 := Tryz.underlying4
  a4 := Tryz.isAgg4
  z4 := Tryz.sizeOf4
  v4 := Tryz.zeroValue4
  t23 := Tryz.underlying119
  a23 := Tryz.isAgg119
  z23 := Tryz.sizeOf119
  v23 := Tryz.zeroValue119
  t26 := Tryz.underlying9
  a26 := Tryz.isAgg9
  z26 := Tryz.sizeOf9
  v26 := Tryz.zeroValue9
  t27 := Tryz.underlying124
  a27 := Tryz.isAgg124
  z27 := Tryz.sizeOf124
  v27 := Tryz.zeroValue124
  t28 := Tryz.underlying125
  a28 := Tryz.isAgg125
  z28 := Tryz.sizeOf125
  v28 := Tryz.zeroValue125
  t33 := Tryz.underlying107
  a33 := Tryz.isAgg107
  z33 := Tryz.sizeOf107
  v33 := Tryz.zeroValue107 }
def Tryz.keysVL_ren : Go.Shelf.Ren := ⟨fun | 7 => 98 | 10 => 155 | n => n, fun | 23 => 137 | 26 => 9 | 3 => 157 | 28 => 125 | 0 => 0 | 27 => 124 | 33 => 107 | 4 => 4 | n => n, fun | n => n⟩
theorem Tryz.keysVL : Go.Proofs.SlLaysZ.n7 Tryz.prog Tryz.keysVL_ren := {
  mixed := by kernel_rfl
  f7 := ⟨Tryz.f98.name, by decide, Tryz.func98.trans (congrArg some (by kernel_rfl))⟩
  f10 := ⟨Tryz.f155.name, by decide, Tryz.func155.trans (congrArg some (by kernel_rfl))⟩
  t0 := Tryz.underlying0
  a0 := Tryz.isAgg0
  z0 := Tryz.sizeOf0
  v0 := Tryz.zeroValue0
  t4 := Tryz.underlying4
  a4 := Tryz.isAgg4
  z4 := Tryz.sizeOf4
  v4 := Tryz.zeroValue4
  t23 := Tryz.underlying137
  a23 := Tryz.isAgg137
  z23 := Tryz.sizeOf137
  v23 := Tryz.zeroValue137
  t26 := Tryz.underlying9
  a26 := Tryz.isAgg9
  z26 := Tryz.sizeOf9
  v26 := Tryz.zeroValue9
  t27 := Tryz.underlying124
  a27 := Tryz.isAgg124
  z27 := Tryz.sizeOf124
  v27 := Tryz.zeroValue124
  t28 := Tryz.underlying125
  a28 := Tryz.isAgg125
  z28 := Tryz.sizeOf125
  v28 := Tryz.zeroValue125
  t33 := Tryz.underlying107
  a33 := Tryz.isAgg107
  z33 := Tryz.sizeOf107
  v33 := Tryz.zeroValue107 }
def Tryz.keysNL_ren : Go.Shelf.Ren := ⟨fun | 7 => 168 | 10 => 198 | n => n, fun | 23 => 227 | 26 => 9 | 3 => 94 | 28 => 125 | 0 => 0 | 27 => 124 | 33 => 107 | 4 => 4 | n => n, fun | n => n⟩
theorem Tryz.keysNL : Go.Proofs.SlLaysZ.n7 Tryz.prog Tryz.keysNL_ren := {
  mixed := by kernel_rfl
  f7 := ⟨Tryz.f168.name, by decide, Tryz.func168.trans (congrArg some (by kernel_rfl))⟩
  f10 := ⟨Tryz.f198.name, by decide, Tryz.func198.trans (congrArg some (by kernel_rfl))⟩
  t0 := Tryz.underlying0
  a0 := Tryz.isAgg0
  z0 := Tryz.sizeOf0
  v0 := Tryz.zeroValue0
  t4 := Tryz.underlying4
  a4 := Tryz.isAgg4
  z4 := Tryz.sizeOf4
  v4 := Tryz.zeroValue4
  t23 := Tryz.underlying227
  a23 := Tryz.isAgg227
  z23 := Tryz.sizeOf227
  v23 := Tryz.zeroValue227
  t26 := Tryz.underlying9
  a26 := Tryz.isAgg9
  z26 := Tryz.sizeOf9
  v26 := Tryz.zeroValue9
  t27 := Tryz.underlying124
  a27 := Tryz.isAgg124
  z27 := Tryz.sizeOf124
  v27 := Tryz.zeroValue124
  t28 := Tryz.underlying125
  a28 := Tryz.isAgg125
  z28 := Tryz.sizeOf125
  v28 := Tryz.zeroValue125
  t33 := Tryz.underlying107
  a33 := Tryz.isAgg107
  z33 := Tryz.sizeOf107
  v33 := Tryz.zeroValue107 }
def Tryz.itoaL_ren : Go.Shelf.Ren := ⟨fun | 171 => 157 | 243 => 187 | 246 => 215 | 283 => 233 | 284 => 234 | 285 => 235 | 286 => 236 | 129 => 212 | 317 => 245 | 318 => 246 | 319 => 247 | 320 => 248 | 337 => 252 | 338 => 253 | n => n, fun | 3 => 3 | 9 => 9 | 2 => 2 | 4 => 4 | 171 => 282 | 0 => 0 | 53 => 129 | 37 => 191 | 5 => 5 | 173 => 284 | 212 => 292 | 51 => 188 | 20 => 20 | 213 => 293 | 46 => 190 | 232 => 298 | 233 => 299 | n => n, fun | 17 => 1 | 18 => 2 | 19 => 3 | n => n⟩
theorem Tryz.itoaL : Go.Proofs.LaysM.n171 Tryz.prog Tryz.itoaL_ren := {
  mixed := by kernel_rfl
  f129 := Tryz.func212.trans (congrArg some (by kernel_rfl))
  f171 := Tryz.func157.trans (congrArg some (by kernel_rfl))
  f243 := Tryz.func187.trans (congrArg some (by kernel_rfl))
  f246 := Tryz.func215.trans (congrArg some (by kernel_rfl))
  f283 := Tryz.func233.trans (congrArg some (by kernel_rfl))
  f284 := Tryz.func234.trans (congrArg some (by kernel_rfl))
  f285 := Tryz.func235.trans (congrArg some (by kernel_rfl))
  f286 := Tryz.func236.trans (congrArg some (by kernel_rfl))
  f317 := Tryz.func245.trans (congrArg some (by kernel_rfl))
  f318 := Tryz.func246.trans (congrArg some (by kernel_rfl))
  f319 := Tryz.func247.trans (congrArg some (by kernel_rfl))
  f320 := Tryz.func248.trans (congrArg some (by kernel_rfl))
  f337 := Tryz.func252.trans (congrArg some (by kernel_rfl))
  f338 := Tryz.func253.trans (congrArg some (by kernel_rfl))
  t0 := Tryz.underlying0
  a0 := Tryz.isAgg0
  z0 := Tryz.sizeOf0
  v0 := Tryz.zeroValue0
  t2 := Tryz.underlying2
  a2 := Tryz.isAgg2
  z2 := Tryz.sizeOf2
  v2 := Tryz.zeroValue2
  t3 := Tryz.underlying3
  a3 := Tryz.isAgg3
  z3 := Tryz.sizeOf3
  v3 := Tryz.zeroValue3
  t4 := Tryz.underlying4
  a4 := Tryz.isAgg4
  z4 := Tryz.sizeOf4
  v4 := Tryz.zeroValue4
  t5 := Tryz.underlying5
  a5 := Tryz.isAgg5
  z5 := Tryz.sizeOf5
  v5 := Tryz.zeroValue5
  t9 := Tryz.underlying9
  a9 := Tryz.isAgg9
  z9 := Tryz.sizeOf9
  v9 := Tryz.zeroValue9
  t20 := Tryz.underlying20
  a20 := Tryz.isAgg20
  z20 := Tryz.sizeOf20
  v20 := Tryz.zeroValue20
  t37 := Tryz.underlying191
  a37 := Tryz.isAgg191
  z37 := Tryz.sizeOf191
  v37 := Tryz.zeroValue191
  t46 := Tryz.underlying190
  a46 := Tryz.isAgg190
  z46 := Tryz.sizeOf190
  v46 := Tryz.zeroValue190
  t51 := Tryz.underlying188
  a51 := Tryz.isAgg188
  z51 := Tryz.sizeOf188
  v51 := Tryz.zeroValue188
  t53 := Tryz.underlying129
  a53 := Tryz.isAgg129
  z53 := Tryz.sizeOf129
  v53 := Tryz.zeroValue129
  t171 := Tryz.underlying282
  a171 := Tryz.isAgg282
  z171 := Tryz.sizeOf282
  v171 := Tryz.zeroValue282
  t173 := Tryz.underlying284
  a173 := Tryz.isAgg284
  z173 := Tryz.sizeOf284
  v173 := Tryz.zeroValue284
  t212 := Tryz.underlying292
  a212 := Tryz.isAgg292
  z212 := Tryz.sizeOf292
  v212 := Tryz.zeroValue292
  t213 := Tryz.underlying293
  a213 := Tryz.isAgg293
  z213 := Tryz.sizeOf293
  t232 := Tryz.underlying298
  a232 := Tryz.isAgg298
  z232 := Tryz.sizeOf298
  v232 := Tryz.zeroValue298
  t233 := Tryz.underlying299
  a233 := Tryz.isAgg299
  z233 := Tryz.sizeOf299
  v233 := Tryz.zeroValue299
  g17 := by kernel_rfl
  g18 := by kernel_rfl
  g19 := by kernel_rfl
  i0 := by kernel_rfl
  i2 := by kernel_rfl
  i3 := by kernel_rfl
  i4 := by kernel_rfl
  i5 := by kernel_rfl
  i9 := by kernel_rfl
  i20 := by kernel_rfl
  i37 := by kernel_rfl
  i46 := by kernel_rfl
  i51 := by kernel_rfl
  i53 := by kernel_rfl
  i171 := by kernel_rfl
  i173 := by kernel_rfl
  i212 := by kernel_rfl
  i232 := by kernel_rfl
  i233 := by kernel_rfl
  m17 := by kernel_rfl
  m18 := by kernel_rfl
  m19 := by kernel_rfl }
def Tryz.compareL_ren : Go.Shelf.Ren := ⟨fun | 106 => 192 | 213 => 219 | 265 => 237 | n => n, fun | 9 => 9 | 3 => 3 | n => n, fun | n => n⟩
theorem Tryz.compareL : Go.Proofs.Lays.n106 Tryz.prog Tryz.compareL_ren := {
  mixed := by kernel_rfl
  f106 := Tryz.func192.trans (congrArg some (by kernel_rfl))
  f213 := Tryz.func219.trans (congrArg some (by kernel_rfl))
  f265 := Tryz.func237.trans (congrArg some (by kernel_rfl))
  t3 := Tryz.underlying3
  a3 := Tryz.isAgg3
  z3 := Tryz.sizeOf3
  v3 := Tryz.zeroValue3
  t9 := Tryz.underlying9
  a9 := Tryz.isAgg9
  z9 := Tryz.sizeOf9
  v9 := Tryz.zeroValue9 }
end Go.Proofs

namespace Go.Proofs.YtccfiohagbneaaaGreatDoor
open Go Go.J Go.RowKit Go.Maps Go.Sort Go.Shelf
def anyR : Value → Option (DataW Unit × List MemPlace) := fun _ => some (.nil, [])
theorem own_of_map {P : Program} {k : TypeId} {b : Nat} {m : KV} {w : World} (hk : P.underlying k = some .string) (h : MapIs b m w) (hl : m.length ≤ maxLen) (hkl : ∀ p ∈ m, p.1.length ≤ maxLen) :
  ∃ D0 : DataW Unit, w.ownsMap P k anyR b m.length D0 ∧ (strKeys D0).Perm (m.map Prod.fst) ∧ Maps.size D0 = m.length := by
 obtain ⟨hnd, es, clock, hb, hkv, hbn, hbc⟩ := h
 have hlen : es.length = m.length := by have := congrArg List.length hkv; simpa [kvs, kvm] using this
 have hkeys : es.map (·.key) = m.map fun p => str p.1 := by
  have := congrArg (List.map Prod.fst) hkv
  simpa [kvs, kvm, List.map_map, Function.comp_def] using this
 have hrd : ∀ x ∈ es, ∃ s, x.key = str s ∧ WideElems.rd P k anyR x = some (.string s, .nil) := fun x hx => by
  have hm : x.key ∈ es.map (·.key) := List.mem_map_of_mem hx
  rw [hkeys] at hm
  obtain ⟨p, hp, he⟩ := List.mem_map.1 hm
  refine ⟨p.1, he.symm, ?_⟩
  unfold WideElems.rd
  rw [← he, WideMaps.keyOf_string_mk hk (show (⟨⟨p.1⟩⟩ : ByteArray).size ≤ maxLen from by rw [size_mk]; exact hkl p hp)]
  rfl
 refine ⟨.map ((es.map (WideElems.rg P k anyR)).foldr DataW.insert []), ⟨⟨es⟩, clock, hb, ⟨by simpa [hlen] using hl, ⟨by simpa using hbc, by simpa using hbn, ?_⟩, fun x hx => ?_⟩, by simp [hlen], rfl⟩, ?_, ?_⟩
 ·simp only
  rw [hkeys]
  have : (m.map fun p => str p.1) = (m.map Prod.fst).map str := by simp [List.map_map, Function.comp_def]
  rw [this]
  refine List.Pairwise.map (S := fun a b => a ≠ b) str (fun a b h e => h ?_) hnd
  simpa [str] using e
 ·obtain ⟨s, _, h2⟩ := hrd x (by simpa using hx)
  exact ⟨_, h2⟩
 ·have hp : ((es.map (WideElems.rg P k anyR)).foldr DataW.insert []).Perm (es.map (WideElems.rg P k anyR)) := Go.WideShapes.sorted_perm _
  refine (hp.map fun p => strOf p.1).trans ?_
  rw [List.map_map]
  have e : es.map ((fun p => strOf p.1) ∘ WideElems.rg P k anyR) = m.map Prod.fst := by
   have h1 : (es.map fun x => x.key) = ((m.map Prod.fst).map str) := by rw [hkeys]; simp [List.map_map, Function.comp_def]
   have h2 : ∀ x ∈ es, str (((fun p => strOf p.1) ∘ WideElems.rg P k anyR) x) = x.key := fun x hx => by
    obtain ⟨s, h1, h2⟩ := hrd x hx
    simp only [Function.comp_def, WideElems.rg, h2, Option.getD_some, strOf, h1]
   have h3 : (es.map ((fun p => strOf p.1) ∘ WideElems.rg P k anyR)).map str = (m.map Prod.fst).map str := by
    rw [← h1, List.map_map]
    exact List.map_congr_left h2
   exact (List.map_inj_right (f := str) (fun a b h => by simpa [str] using h)).1 h3
  rw [e]
 ·have hp : ((es.map (WideElems.rg P k anyR)).foldr DataW.insert []).Perm (es.map (WideElems.rg P k anyR)) := Go.WideShapes.sorted_perm _
  have := hp.length_eq
  rw [List.length_map] at this
  rw [← hlen, ← this]
  rfl
theorem sortsL (m : Nat) : AnyZ.SortsIn Tryz.prog Tryz.sortedL_ren Fence.wide m :=
 ⟨fun blk off cap ss W hH hblk hsz => callsIn_wide.2 (AnyM.slices_Sort_string Tryz.sortL blk off cap ss W hH hblk hsz),
 fun p cap W => callsIn_wide.2 (AnyM.slices_Sort_string_none Tryz.sortL p cap W)⟩
def keysT : TypeId := Tryz.keysL_ren.t 23 -- 76
theorem mapsKeys_c (mb : Nat) (w : World) : Cal Tryz.prog 76 [.map (some mb)] w fun v w' => v = .func (.func 139) ⟨[]⟩ ⟨[.pointer (some ⟨w.heap.size, 0, none⟩)]⟩ ∧ w' = w.alloc (.cells ⟨[.map (some mb)]⟩ keysT) :=
 ⟨Zk, (callsIn_wide.1 (AnyZ.keys_in Tryz.keysL Fence.wide 5 trivial rfl (some mb) w)).mono fun e w' ⟨h1, h2⟩ => ⟨_, h1, rfl, h2⟩⟩
theorem mapsKeys_n (mb : Nat) (w : World) : Cal Tryz.prog 76 [.map (some mb)] w fun v w' => ∃ x, v = .func (.func 139) ⟨[]⟩ ⟨[.pointer (some ⟨x, 0, none⟩)]⟩ ∧ Upd [] w w' ∧ New w w' (.box x keysT [.map (some mb)]) :=
 (mapsKeys_c mb w).mono fun v w' ⟨h1, h2⟩ => by
  subst h2
  have hh := heap_alloc_new w (.cells ⟨[.map (some mb)]⟩ keysT)
  exact ⟨_, h1, .alloc _ _ _, ⟨hh, fun b hb => by simp [Chunk.fp] at hb; subst hb; simp⟩⟩
theorem sorted_c {x mb : Nat} {m : KV} {w : World} (hx : w.heap[x]? = some (.cells ⟨[.map (some mb)]⟩ keysT (0, 0))) (hm : MapIs mb m w) (hl : m.length ≤ 1048576) (hkl : ∀ p ∈ m, p.1.length ≤ 1099511627776) :
  Cal Tryz.prog 75 [.func (.func 139) ⟨[]⟩ ⟨[.pointer (some ⟨x, 0, none⟩)]⟩] w fun v w' => Upd [] w w' ∧ ∃ A cap, v = .slice A m.length cap ∧
   New w w' (.own (.slice A m.length cap) 9 1 m.length (strs ((m.map Prod.fst).mergeSort (fun x y => decide (x ≤ y))))) := by
 have hmx : m.length ≤ maxLen := by unfold maxLen; omega
 obtain ⟨D0, hown, hperm, hsz⟩ := own_of_map Tryz.underlying9 hm hmx (fun p hp => by have := hkl p hp; unfold maxLen; omega)
 have hxl : x < w.heap.size := (Array.getElem?_eq_some_iff.1 hx).1
 have hseq : SeqGives Fence.wide 2 Tryz.prog 139 #[.pointer (some ⟨x, 0, none⟩)] encStr (fun ss => ss.Perm (strKeys D0)) (Maps.size D0) w :=
  AnyZ.keys_gives (ρ := Tryz.keysL_ren) { Tryz.keysL with } Fence.wide _ trivial rfl Zo x mb m.length D0 _ hxl (by rw [cell_of_row w x 0 _ _ _ hx]; rfl) hown
 have cS := AnyZ.sorted_in Tryz.sortedL Fence.wide 5 trivial trivial trivial trivial rfl Zo (sortsL _) (enters_of Tryz.func138 Zk rfl) 139 #[.pointer (some ⟨x, 0, none⟩)] trivial (enters_of Tryz.func139 Zk rfl) _ _ (by rw [hsz]; exact hmx) (by rw [hsz]; omega) _ hseq
 change CallsIn _ _ Tryz.prog 75 _ _ _ at cS
 refine ⟨Zk, (callsIn_wide.1 cS).mono fun e w' ⟨v, ss, he, hS, hrow, hnil, hb⟩ => ⟨v, he, .of_below hb, ?_⟩⟩
 have hp : ss.Perm (m.map Prod.fst) := hS.trans hperm
 have hlen : ss.length = m.length := by rw [hp.length_eq, List.length_map]
 have hms : ss.mergeSort (fun x y => decide (x ≤ y)) = (m.map Prod.fst).mergeSort (fun x y => decide (x ≤ y)) := mergeSort_of_perm hp
 rw [hms, hlen] at hrow
 have hst : ((m.map Prod.fst).mergeSort (fun x y => decide (x ≤ y))).map encStr = strs ((m.map Prod.fst).mergeSort (fun x y => decide (x ≤ y))) := by
  generalize (m.map Prod.fst).mergeSort (fun x y => decide (x ≤ y)) = l
  induction l with
  |nil => rfl
  |cons a l ih => simp only [List.map_cons, ih]; rfl
 rw [hst] at hrow
 have hrow' := hrow
 rcases hrow.2 with ⟨rfl, hz⟩ | ⟨g, cap, cur, rfl, hg, hh, _⟩
 ·refine ⟨none, 0, by rw [hz], ⟨?_, fun b hb => by simp [Chunk.fp, Value.ownBlock] at hb⟩⟩
  have := RowAt.of_owns hrow
  rwa [hz] at this ⊢
 ·exact ⟨_, _, rfl, ⟨RowAt.of_owns hrow', fun b hb => by
   simp [Chunk.fp, Value.ownBlock] at hb
   subst hb
   exact ⟨hg, (Array.getElem?_eq_some_iff.1 hh).1⟩⟩⟩
open Go Go.J Go.RowKit Go.Maps Go.Sort Go.Shelf
def keysVT : TypeId := Tryz.keysVL_ren.t 23
theorem mapsKeysV_c (mb : Nat) (w : World) : Cal Tryz.prog 98 [.map (some mb)] w fun v w' => v = .func (.func 155) ⟨[]⟩ ⟨[.pointer (some ⟨w.heap.size, 0, none⟩)]⟩ ∧ w' = w.alloc (.cells ⟨[.map (some mb)]⟩ keysVT) :=
 ⟨Zk, (callsIn_wide.1 (AnyZ.keys_in Tryz.keysVL Fence.wide 5 trivial rfl (some mb) w)).mono fun e w' ⟨h1, h2⟩ => ⟨_, h1, rfl, h2⟩⟩
theorem mapsKeysV_n (mb : Nat) (w : World) : Cal Tryz.prog 98 [.map (some mb)] w fun v w' => ∃ x, v = .func (.func 155) ⟨[]⟩ ⟨[.pointer (some ⟨x, 0, none⟩)]⟩ ∧ Upd [] w w' ∧ New w w' (.box x keysVT [.map (some mb)]) :=
 (mapsKeysV_c mb w).mono fun v w' ⟨h1, h2⟩ => by
  subst h2
  have hh := heap_alloc_new w (.cells ⟨[.map (some mb)]⟩ keysVT)
  exact ⟨_, h1, .alloc _ _ _, ⟨hh, fun b hb => by simp [Chunk.fp] at hb; subst hb; simp⟩⟩
theorem sortedV_c {x mb : Nat} {m : KV} {w : World} (hx : w.heap[x]? = some (.cells ⟨[.map (some mb)]⟩ keysVT (0, 0))) (hm : MapIs mb m w) (hl : m.length ≤ 1048576) (hkl : ∀ p ∈ m, p.1.length ≤ 1099511627776) :
  Cal Tryz.prog 75 [.func (.func 155) ⟨[]⟩ ⟨[.pointer (some ⟨x, 0, none⟩)]⟩] w fun v w' => Upd [] w w' ∧ ∃ A cap, v = .slice A m.length cap ∧
   New w w' (.own (.slice A m.length cap) 9 1 m.length (strs ((m.map Prod.fst).mergeSort (fun x y => decide (x ≤ y))))) := by
 have hmx : m.length ≤ maxLen := by unfold maxLen; omega
 obtain ⟨D0, hown, hperm, hsz⟩ := own_of_map Tryz.underlying9 hm hmx (fun p hp => by have := hkl p hp; unfold maxLen; omega)
 have hxl : x < w.heap.size := (Array.getElem?_eq_some_iff.1 hx).1
 have hseq : SeqGives Fence.wide 2 Tryz.prog 155 #[.pointer (some ⟨x, 0, none⟩)] encStr (fun ss => ss.Perm (strKeys D0)) (Maps.size D0) w :=
  AnyZ.keys_gives (ρ := Tryz.keysVL_ren) { Tryz.keysVL with } Fence.wide _ trivial rfl Zo x mb m.length D0 _ hxl (by rw [cell_of_row w x 0 _ _ _ hx]; rfl) hown
 have cS := AnyZ.sorted_in Tryz.sortedL Fence.wide 5 trivial trivial trivial trivial rfl Zo (sortsL _) (enters_of Tryz.func138 Zk rfl) 155 #[.pointer (some ⟨x, 0, none⟩)] trivial (enters_of Tryz.func155 Zk rfl) _ _ (by rw [hsz]; exact hmx) (by rw [hsz]; omega) _ hseq
 change CallsIn _ _ Tryz.prog 75 _ _ _ at cS
 refine ⟨Zk, (callsIn_wide.1 cS).mono fun e w' ⟨v, ss, he, hS, hrow, hnil, hb⟩ => ⟨v, he, .of_below hb, ?_⟩⟩
 have hp : ss.Perm (m.map Prod.fst) := hS.trans hperm
 have hlen : ss.length = m.length := by rw [hp.length_eq, List.length_map]
 have hms : ss.mergeSort (fun x y => decide (x ≤ y)) = (m.map Prod.fst).mergeSort (fun x y => decide (x ≤ y)) := mergeSort_of_perm hp
 rw [hms, hlen] at hrow
 have hst : ((m.map Prod.fst).mergeSort (fun x y => decide (x ≤ y))).map encStr = strs ((m.map Prod.fst).mergeSort (fun x y => decide (x ≤ y))) := by
  generalize (m.map Prod.fst).mergeSort (fun x y => decide (x ≤ y)) = l
  induction l with
  |nil => rfl
  |cons a l ih => simp only [List.map_cons, ih]; rfl
 rw [hst] at hrow
 have hrow' := hrow
 rcases hrow.2 with ⟨rfl, hz⟩ | ⟨g, cap, cur, rfl, hg, hh, _⟩
 ·refine ⟨none, 0, by rw [hz], ⟨?_, fun b hb => by simp [Chunk.fp, Value.ownBlock] at hb⟩⟩
  have := RowAt.of_owns hrow
  rwa [hz] at this ⊢
 ·exact ⟨_, _, rfl, ⟨RowAt.of_owns hrow', fun b hb => by
   simp [Chunk.fp, Value.ownBlock] at hb
   subst hb
   exact ⟨hg, (Array.getElem?_eq_some_iff.1 hh).1⟩⟩⟩
open Go Go.J Go.RowKit
def keysE {β : Type} (m : List (List UInt8 × β)) : List (List UInt8) := (m.map Prod.fst).mergeSort (fun x y => decide (x ≤ y))
theorem keysE_len {β : Type} (m : List (List UInt8 × β)) : (keysE m).length = m.length := by unfold keysE; rw [List.length_mergeSort, List.length_map]
def rowOp (rows : Rws) (k : List UInt8) : Chg := ⟨k, (mget rows k).getD [], false⟩
def packL (rows : Rws) : List Chg := (keysE rows).map (rowOp rows)
def tabPack (T : Tb) (D : Dk) : Int × Tb × Dk :=
 if (D.fill (baseP T.dir) (packE (recordE (packL T.rows)))).1 ≠ 0 then ((D.fill (baseP T.dir) (packE (recordE (packL T.rows)))).1, T, (D.fill (baseP T.dir) (packE (recordE (packL T.rows)))).2)
 else (((D.fill (baseP T.dir) (packE (recordE (packL T.rows)))).2.fill T.log.p []).1, { T with log := T.log.reset ((D.fill (baseP T.dir) (packE (recordE (packL T.rows)))).2.fill T.log.p []).1 }, ((D.fill (baseP T.dir) (packE (recordE (packL T.rows)))).2.fill T.log.p []).2)
theorem tpack_c {Tp q mb lb : Nat} {D D' : Dk} {T T' : Tb} {fp : List Nat} {w0 : World} {e : Int} (hi : InL w0 [tabC Tp q T fp, dkC q mb lb D]) (hu : tabPack T D = (e, T', D')) (hl : T.dir.length ≤ 1099511000) (hlg : T.log.p.length ≤ 1099511620) (hno : D.Sm 1099511627776)
  (hr : (recordE (packL T.rows)).length ≤ 549755813888) (hn : T.rows.length ≤ 1048576) (hk : ∀ p ∈ T.rows, p.1.length ≤ 1099511627776) :
  Cal Tryz.prog 44 [.pointer (some ⟨Tp, 0, none⟩)] w0
   (fun v w' => v = .int .i64 e ∧ ∃ fp', MutL w0 w' [tabC Tp q T fp, dkC q mb lb D] [tabC Tp q T' fp', dkC q mb lb D']) := by
 refine Cal.mkL hi Zk Tryz.func44 rfl rfl fun hS => ?_
 obtain ⟨_, ⟨m, L, fpl, rfl⟩, hfp, hS⟩ := St.objOpen hS
 replace hS : St w0 (fps [tabC Tp q T fp, dkC q mb lb D]) w0 [tbB Tp (some ⟨q, 0, none⟩) T.dir (some ⟨L, 0, none⟩) m, rowsC m T.rows, lgC L q T.log fpl, dkC q mb lb D] (ZL w0 [tabC Tp q T fp, dkC q mb lb D]) := hS
 obtain ⟨dir, rows, G⟩ := T
 dsimp only at hl hlg hr hn hk hS hu
 have hpkl := packE_len (recordE (packL rows))
 have hpn := putN_len10 (n := (recordE (packL rows)).length) Zo
 have hk7 : ([47, 98, 97, 115, 101, 95, 116] : List UInt8).length = 7 := rfl
 have hk5 : ([47, 98, 97, 115, 101] : List UInt8).length = 5 := rfl
 obtain ⟨t, ht⟩ : ∃ t, t = baseP dir ++ [95, 116] := ⟨_, rfl⟩
 have htl : t.length ≤ 1099511627 := by rw [ht]; simp; omega
 have hbt : dir ++ [47, 98, 97, 115, 101, 95, 116] = t := by rw [ht]; simp
 rcases h1 : D.write t (packE (recordE (packL rows))) with ⟨e1, D1⟩
 rcases h2 : D1.sync t with ⟨e2, D2⟩
 rcases h3 : D2.rename t (baseP dir) with ⟨e3, D3⟩
 rcases h4 : D3.fill G.p [] with ⟨e4, D4⟩
 have m1 : D1.Sm 1099511627776 := by have := hno.write (p := t) (s := packE (recordE (packL rows))) Zo; rwa [h1] at this
 have m2 : D2.Sm 1099511627776 := by have := m1.sync (p := t); rwa [h2] at this
 have m3 : D3.Sm 1099511627776 := by have := m2.rename (p := t) (r := baseP dir); rwa [h3] at this
 have hu : (if e1 ≠ 0 then (e1, ⟨dir, rows, G⟩, D1) else if e2 ≠ 0 then (e2, ⟨dir, rows, G⟩, D2) else if e3 ≠ 0 then (e3, ⟨dir, rows, G⟩, D3) else (e4, ⟨dir, rows, G.reset e4⟩, D4)) = (e, T', D') := by
  have hf : D.fill (baseP dir) (packE (recordE (packL rows))) = if e1 ≠ 0 then (e1, D1) else if e2 ≠ 0 then (e2, D2) else (e3, D3) := by unfold Dk.fill; rw [← ht, h1]; dsimp only; rw [h2]; dsimp only; rw [h3]
  rw [← hu]
  unfold tabPack
  dsimp only
  rw [hf]
  by_cases c1 : e1 = 0
  ·rw [if_neg (fun h => h c1), if_neg (fun h : e1 ≠ 0 => h c1)]
   by_cases c2 : e2 = 0
   ·rw [if_neg (fun h => h c2), if_neg (fun h : e2 ≠ 0 => h c2)]
    dsimp only
    rw [h4]
   ·rw [if_pos c2, if_pos c2, if_pos c2]
  ·rw [if_pos c1, if_pos c1, if_pos c1]
 have hks : ∀ w0 x, w0.heap[x]? = some (.cells ⟨[.map (some m)]⟩ keysVT (0, 0)) → MapIs m (mmap encRow rows) w0 → Cal Tryz.prog 75 [.func (.func 155) ⟨[]⟩ ⟨[.pointer (some ⟨x, 0, none⟩)]⟩] w0 fun v w' => Upd [] w0 w' ∧ ∃ A cap, v = .slice A (keysE rows).length cap ∧
   New w0 w' (.own (.slice A (keysE rows).length cap) 9 1 (keysE rows).length (strs (keysE rows))) := fun w0 x hx hm => by
  have h := sortedV_c hx hm (by unfold mmap; rw [List.length_map]; omega) (fun p hp => by
   obtain ⟨y, hy, rfl⟩ := List.mem_map.1 hp
   exact hk y hy)
  have e1 : (mmap encRow rows).map Prod.fst = rows.map Prod.fst := by unfold mmap; rw [List.map_map]; rfl
  have e2 : (mmap encRow rows).length = rows.length := by unfold mmap; rw [List.length_map]
  rw [e1, e2] at h
  rw [keysE_len]
  exact h
 have hkl := keysE_len rows
 have hfin : ∀ (l : List (List UInt8)), l = keysE rows → l.map (rowOp rows) = packL rows := fun l h => by rw [h]; rfl
 repeat' (first | (show WL _ _ _ _ _ _ _; first | refine WL.pure rfl rfl rfl rfl ?_ | refine WL.nil ?_ | refine WL.load hS rfl rfl (LdOk.box (by repeat (first | exact Zh | apply List.Mem.tail)) rfl) rfl rfl rfl ?_ | (refine WL.slit (t := 73) hS rfl rfl rfl rfl rfl ?_; intro w ob hS; have hS := hS.boxRow (n := 0) (size := 3) .here rfl (Nat.zero_le _)) | (refine WL.callG rfl rfl (mapsKeysV_n m _) rfl rfl rfl ?_; rintro v w ⟨x, rfl, hup, hnew⟩; have hS := hS.new hup hnew; clear hup hnew) | (refine WL.callG rfl rfl (hks _ _ (hS.holds _ Zh) (hS.holds (rowsC m rows) (by repeat (first | exact Zh | apply List.Mem.tail))).1) rfl rfl rfl ?_; rintro v w ⟨hup, A, cap, rfl, hnew⟩; have hS := hS.new hup hnew; clear hup hnew)) | (show WC _ _ _ _ _ _; first | refine WC.seq ?_ | refine WC.region ?_ | refine WC.block ?_ | refine WC.skip ?_ | refine WC.condF rfl Zr ?_) | refine seqQ_n ?_)
 replace hS := hS.droplast2 (D := [.own (.slice (some ⟨ob, 0, none⟩) 0 0) 79 3 0 [], .own (.slice A (keysE rows).length cap) 9 1 (keysE rows).length (strs (keysE rows)), tbB Tp (some ⟨q, 0, none⟩) dir (some ⟨L, 0, none⟩) m, rowsC m rows, lgC L q G fpl, dkC q mb lb D]) Pu
 refine WC.loop (σ := Nat × List Chg × Option Addr × Nat) [0, 18, 19] (fun (k, l, A2, cap2) => [(3, .slice A2 l.length cap2), (20, .int .i64 (k : Int))])
  (fun (k, l, A2, cap2) w => k ≤ (keysE rows).length ∧ l = ((keysE rows).take k).map (rowOp rows) ∧ St w0 (fps [tabC Tp q ⟨dir, rows, G⟩ fp, dkC q mb lb D]) w [.own (.slice A2 l.length cap2) 79 3 l.length (chgs l), .own (.slice A (keysE rows).length cap) 9 1 (keysE rows).length (strs (keysE rows)), tbB Tp (some ⟨q, 0, none⟩) dir (some ⟨L, 0, none⟩) m, rowsC m rows, lgC L q G fpl, dkC q mb lb D] (ZL w0 [tabC Tp q ⟨dir, rows, G⟩ fp, dkC q mb lb D]))
  (fun (k, _) => (keysE rows).length - k) (0, [], some ⟨ob, 0, none⟩, 0) ⟨Nat.zero_le _, rfl, hS⟩ ⟨rfl, rfl, trivial⟩ ?_
 clear hS hks
 rintro ⟨k, l, A2, cap2⟩ g w ⟨hkk, hleq, hS⟩
 show WC _ _ _ (lf _ [(3, .slice A2 l.length cap2), (20, .int .i64 (k : Int))] _ _) _ _
 have hcap2 := (hS.own_len Zh).2.2
 have hll : l.length = k := by rw [hleq, List.length_map, List.length_take]; omega
 by_cases hlt : k < (keysE rows).length
 ·clear hu h1 h2 h3 h4 m1 m2 m3 hk
  have hx : (strs (keysE rows))[k * 1]? = some (str (keysE rows)[k]) := by rw [Nat.mul_one]; exact strs_at hlt
  have hnext : ((keysE rows).take (k + 1)).map (rowOp rows) = l ++ [rowOp rows (keysE rows)[k]] := by rw [List.take_succ_eq_append_getElem hlt, List.map_append, ← hleq]; rfl
  generalize (keysE rows)[k] = key at *
  have hlk := look_row1 rows key
  have hro : rowOp rows key = ⟨key, (mget rows key).getD [], false⟩ := rfl
  rw [hro] at hnext
  generalize (mget rows key).getD [] = val at *
  clear hleq hfin
  obtain ⟨rg, ro, rfl⟩ := hS.own_addr (List.Mem.tail _ Zh) (Nat.lt_of_le_of_lt (Nat.zero_le k) hlt)
  repeat' (first | (show WL _ _ _ _ _ _ _; first | refine WL.pure rfl rfl rfl rfl ?_ | refine WL.nil ?_ | refine WL.load hS rfl rfl (LdOk.box (by repeat (first | exact Zh | apply List.Mem.tail)) rfl) rfl rfl rfl ?_ | refine WL.add rfl rfl rfl Zo rfl rfl rfl ?_ | (refine WL.load hS rfl rfl (LdOk.ownAt (by repeat (first | exact Zh | apply List.Mem.tail)) rfl ⟨_, rfl⟩ hx rfl) rfl rfl rfl ?_) | (refine WL.mget hS rfl rfl rfl rfl (.mk' (by repeat (first | exact Zh | apply List.Mem.tail))) hlk rfl rfl rfl ?_) | (refine WL.app hS rfl rfl rfl rfl (RdOk.box (by repeat (first | exact Zh | apply List.Mem.tail))) rfl rfl (fun A cap => Rp) Zo rfl rfl rfl ?_; intro A3 cap3 w hS) | refine WL.index rfl rfl rfl rfl Zw rfl rfl rfl rfl ?_ | refine WL.build rfl rfl rfl rfl rfl ?_ | (refine WL.slit hS rfl rfl rfl rfl rfl ?_; intro w b hS)) | (show WC _ _ _ _ _ _; first | refine WC.seq ?_ | refine WC.region ?_ | refine WC.block ?_ | refine WC.skip ?_ | refine WC.condT rfl (decide_eq_true Zw) ?_) | refine seqQ_n ?_ | refine blkQ_n ?_)
  exact rndQ_n (k + 1, l ++ [⟨key, val, false⟩], A3, cap3) ⟨Zo, hnext.symm, by
   have hS := hS.drop
   rw [List.length_append, ← chgs_snoc]
   exact hS⟩ (by show (keysE rows).length - (k + 1) < (keysE rows).length - k; omega) ⟨by rw [List.length_append]; rfl, vint Zo, trivial⟩ ⟨rfl, rfl, rfl, trivial⟩
 ·have hke : k = (keysE rows).length := Zo
  subst hke
  rw [List.take_length] at hleq
  obtain rfl : l = packL rows := hleq
  have hpl : (packL rows).length ≤ 1099511627776 := Zo
  clear hfin hk
  repeat' (first | (show WL _ _ _ _ _ _ _; first | refine WL.pure rfl rfl rfl rfl ?_ | refine WL.nil ?_ | refine WL.load hS rfl rfl (LdOk.box (by repeat (first | exact Zh | apply List.Mem.tail)) rfl) rfl rfl rfl ?_ | (refine WL.cat rfl rfl rfl Zo rfl rfl rfl ?_; rw [hbt]) | (refine WL.callL (D := [dkC q mb lb D1]) hS Pu rfl rfl (fun hI => sync_c t hI.head hI.headB htl) rfl rfl rfl ?_; rintro v w ⟨rfl, hm⟩ hS; rw [h2] at hm ⊢; replace hS := hS _ (.of1 hm); clear hm) | (refine WL.callL (D := [lgC L q G fpl, dkC q mb lb D3]) hS Pu rfl rfl (fun hI => reset_c hI h4 hlg m3) rfl rfl rfl ?_; rintro v w ⟨rfl, fpl2, hm⟩ hS; replace hS := hS _ hm; clear hm)) | (show WC _ _ _ _ _ _; first | refine WC.seq ?_ | refine WC.region ?_ | refine WC.skip ?_ | refine WC.exit ?_ | refine WC.ret ?_ | (show WC _ _ (Code.region _ (List.toArray [_, _, _, _, _, _, _, _, _, _]) true) _ _ _; refine WC.drawL [dkC q mb lb D] hS Pu [0,1,2,3,4,5,9] [0,1,2,3,4,5,6,7,8,9] Zk Zk ?_; clear hS; intro w hS hM) | (show WC _ _ (Code.region _ (List.toArray [_, _, _, _, _, _, _, _, _, _, _, _]) true) _ _ _; refine WC.drawL [dkC q mb lb D2] hS Pu [0,1,2,3,4,5,6,7,8,9,11] [0,1,2,3,4,5,6,7,8,9,10,11] Zk Zk ?_; clear hS; intro w hS hM) | refine WC.condF rfl (decide_eq_false Zw) ?_ | (refine WC.cond rfl (fun h => ?_) (fun h => ?_) <;> (try simp only [Ya,Yb,Yc,Yd,Ye,Yf,Yg,Yh,Yi,Yj,Yk,Yl,Ym,Yn,Yo,Yp] at h) <;> (try exact Zx))) | (show WD _ _ _ _ _ _ _ _ _; first | refine WD.pure rfl rfl rfl rfl rfl ?_ | refine WD.nil ?_ | refine WD.load rfl rfl (LdOk.box (by repeat (first | exact Zh | apply List.Mem.tail)) rfl) rfl rfl rfl rfl ?_ | (refine WD.cat rfl rfl rfl Zo rfl rfl rfl rfl ?_) | (refine WD.calls hS hM rfl rfl (record_c (packL rows) (St.ownSl Zd hS (by repeat (first | exact Zh | apply List.Mem.tail))) Zo hpl) rfl rfl rfl rfl rfl ?_; clear hS; rintro v w rfl hS) | (refine WD.calls hS hM rfl rfl (pack_c (recordE (packL rows)) _ Zo) rfl rfl rfl rfl rfl ?_; clear hS; rintro v w rfl hS) | (refine WD.callL (D := [dkC q mb lb D]) hS Pu (.refl _ _) rfl rfl (fun hI => write_c t (packE (recordE (packL rows))) hI.head hI.headB htl (hno.no _) Zo (hno.at_ _)) rfl rfl rfl rfl rfl ?_; rintro v w ⟨rfl, hm⟩; rw [h1] at hm ⊢; refine ⟨_, .of1 hm, fun hS hM => ?_⟩; clear hm) | (refine WD.callL (D := [dkC q mb lb D2]) hS Pu (.refl _ _) rfl rfl (fun hI => rename_c t (baseP dir) hI.head hI.headB htl (by rw [List.length_append]; omega) (m2.no _) (m2.at_ _) (m2.at_ _)) rfl rfl rfl rfl rfl ?_; rintro v w ⟨rfl, hm⟩; rw [h3] at hm ⊢; refine ⟨_, .of1 hm, fun hS hM => ?_⟩; clear hm)) | refine seqQ_n ?_ | refine seqQ_x ?_ | refine seqQ_r ?_ | refine blkQ_hit rfl ?_ | refine rndQ_x ?_)
  ·rw [if_pos h] at hu
   cases hu
   have hS := St.objClose (φ := tabφ Tp q ⟨dir, rows, G⟩) (hS.pulls (D := [tbB Tp (some ⟨q, 0, none⟩) dir (some ⟨L, 0, none⟩) m, rowsC m rows, lgC L q G fpl]) Pu) ⟨m, L, fpl, rfl⟩
   exact fin1r rfl rfl ⟨rfl, _, hS.mutLp Pu⟩
  ·rw [if_neg (fun hh => hh (by assumption)), if_pos h] at hu
   cases hu
   have hS := St.objClose (φ := tabφ Tp q ⟨dir, rows, G⟩) (hS.pulls (D := [tbB Tp (some ⟨q, 0, none⟩) dir (some ⟨L, 0, none⟩) m, rowsC m rows, lgC L q G fpl]) Pu) ⟨m, L, fpl, rfl⟩
   exact fin1r rfl rfl ⟨rfl, _, hS.mutLp Pu⟩
  ·rw [if_neg (fun hh => hh (by assumption)), if_neg (fun hh => hh (by assumption)), if_pos h] at hu
   cases hu
   have hS := St.objClose (φ := tabφ Tp q ⟨dir, rows, G⟩) (hS.pulls (D := [tbB Tp (some ⟨q, 0, none⟩) dir (some ⟨L, 0, none⟩) m, rowsC m rows, lgC L q G fpl]) Pu) ⟨m, L, fpl, rfl⟩
   exact fin1r rfl rfl ⟨rfl, _, hS.mutLp Pu⟩
  ·rw [if_neg (fun hh => hh (by assumption)), if_neg (fun hh => hh (by assumption)), if_neg (fun hh => hh (by assumption))] at hu
   cases hu
   have hS := St.objClose (φ := tabφ Tp q ⟨dir, rows, G.reset e⟩) (hS.pulls (D := [tbB Tp (some ⟨q, 0, none⟩) dir (some ⟨L, 0, none⟩) m, rowsC m rows, lgC L q (G.reset e) fpl2]) Pu) ⟨m, L, fpl2, rfl⟩
   exact fin1r rfl rfl ⟨rfl, _, hS.mutLp Pu⟩
open Go Go.J Go.RowKit
def tabCommit (T : Tb) (D : Dk) (ops : List Chg) : Int × Tb × Dk :=
 if ops = [] then (0, T, D)
 else if (walAdd T.log D (recordE ops)).1 ≠ 0 then ((walAdd T.log D (recordE ops)).1, { T with log := (walAdd T.log D (recordE ops)).2.1 }, (walAdd T.log D (recordE ops)).2.2)
 else if 16 ≤ (walAdd T.log D (recordE ops)).2.1.recs.length then tabPack ⟨T.dir, applyE T.rows ops, (walAdd T.log D (recordE ops)).2.1⟩ (walAdd T.log D (recordE ops)).2.2
 else (0, ⟨T.dir, applyE T.rows ops, (walAdd T.log D (recordE ops)).2.1⟩, (walAdd T.log D (recordE ops)).2.2)
def bchLeft (T : Tb) (D : Dk) (m : Bch) : Bch := if (walAdd T.log D (recordE (m.map Prod.snd))).1 ≠ 0 then m else []
theorem mget_at : ∀ {m : Bch}, (m.map Prod.fst).Nodup → ∀ {k : Nat} (h : k < m.length), mget m m[k].1 = some m[k].2
 |[], _, k, h => by simp at h
 |(a, b) :: m, hn, 0, h => by simp [mget]
 |(a, b) :: m, hn, k + 1, h => by
  have hn' : a ∉ m.map Prod.fst ∧ (m.map Prod.fst).Nodup := by simpa using hn
  have hk : k < m.length := by simpa using h
  have hne : ¬ m[k].1 = a := fun e => hn'.1 (by rw [← e]; exact List.mem_map_of_mem (List.getElem_mem hk))
  show mget ((a, b) :: m) m[k].1 = some m[k].2
  unfold mget
  rw [if_neg hne]
  exact mget_at hn'.2 hk
theorem walAdd_len (G : Lg) (D : Dk) (r : List UInt8) : (walAdd G D r).2.1.recs.length ≤ G.recs.length + 1 ∧ (walAdd G D r).2.1.p = G.p := by
 unfold walAdd
 repeat' split
 ·exact ⟨by dsimp only; omega, rfl⟩
 ·exact ⟨by dsimp only; omega, rfl⟩
 ·exact ⟨by simp [Lg.push], rfl⟩
theorem Dk.Sm.up {D : Dk} {B C : Nat} (h : D.Sm B) (hc : B ≤ C) : D.Sm C := ⟨h.1, fun x hx => Nat.le_trans (h.2 x hx) hc⟩
theorem Dk.Sm.append {D : Dk} {B C : Nat} (h : D.Sm B) {p s : List UInt8} (hs : s.length ≤ C) : (D.append p s).2.Sm (B + C) := by
 unfold Dk.append
 repeat' split
 ·exact h.up (Nat.le_add_right _ _)
 ·exact h.step.up (Nat.le_add_right _ _)
 ·refine (h.step.up (Nat.le_add_right B C)).set ?_
  have := h.step.at_ p
  simp only [List.length_append]
  omega
theorem Dk.Sm.walAdd {D : Dk} {G : Lg} {r : List UInt8} (h : D.Sm 549755813888) (hr : r.length ≤ 4294967296) : (walAdd G D r).2.2.Sm 1099511627776 := by
 have hpk := packE_len r
 have hpn := putN_len10 (n := r.length) Zo
 have h1 : (D.append G.p (packE r)).2.Sm 1099511627776 := (h.append (C := 8589934592) Zo).up Zo
 unfold Go.Proofs.YtccfiohagbneaaaGreatDoor.walAdd
 repeat' split
 ·exact h1
 ·exact h1.sync
 ·exact h1.sync
theorem bcommit_c {B Tp q mb lb : Nat} {D D' : Dk} {T T' : Tb} {m : Bch} {fb fp : List Nat} {w0 : World} {e : Int} (hi : InL w0 [bchC B (some ⟨Tp, 0, none⟩) m fb, tabC Tp q T fp, dkC q mb lb D]) (hu : tabCommit T D (m.map Prod.snd) = (e, T', D'))
  (hl : T.dir.length ≤ 1099511000) (hlg : T.log.p.length ≤ 1099511620) (hno : D.Sm 549755813888) (hr : (recordE (m.map Prod.snd)).length ≤ 1073741824) (hn : T.log.recs.length ≤ 4194303) (hml : m.length ≤ 1048576)
  (hr2 : (recordE (packL (applyE T.rows (m.map Prod.snd)))).length ≤ 549755813888) (hn2 : (applyE T.rows (m.map Prod.snd)).length ≤ 1048576) (hk2 : ∀ p ∈ applyE T.rows (m.map Prod.snd), p.1.length ≤ 1099511627776) :
  Cal Tryz.prog 42 [.pointer (some ⟨B, 0, none⟩)] w0
   (fun v w' => v = .int .i64 e ∧ ∃ fb' fp', MutL w0 w' [bchC B (some ⟨Tp, 0, none⟩) m fb, tabC Tp q T fp, dkC q mb lb D] [bchC B (some ⟨Tp, 0, none⟩) (bchLeft T D m) fb', tabC Tp q T' fp', dkC q mb lb D']) := by
 refine Cal.mkL hi Zk Tryz.func42 rfl rfl fun hS => ?_
 obtain ⟨_, ⟨A, cap, mb2, rfl⟩, hfb, hS⟩ := St.objOpen hS
 replace hS : St w0 (fps [bchC B (some ⟨Tp, 0, none⟩) m fb, tabC Tp q T fp, dkC q mb lb D]) w0 [.box B 153 [.pointer (some ⟨Tp, 0, none⟩), .slice A m.length cap, .map (some mb2)], .own (.slice A m.length cap) 9 1 m.length (strs (m.map Prod.fst)), mapC mb2 (mmap encChg m), tabC Tp q T fp, dkC q mb lb D] _ := hS
 have hnd : (m.map Prod.fst).Nodup := by
  have h : ((mmap encChg m).map Prod.fst).Nodup := (hS.holds (mapC mb2 (mmap encChg m)) (by repeat (first | exact Zh | apply List.Mem.tail))).1.1
  have e1 : (mmap encChg m).map Prod.fst = m.map Prod.fst := by unfold mmap; rw [List.map_map]; rfl
  rwa [e1] at h
 replace hS := hS.pulls (D := [tabC Tp q T fp]) Pu
 obtain ⟨_, ⟨mr, L, fpl, rfl⟩, hfp, hS⟩ := St.objOpen hS
 obtain ⟨dir, rows, G⟩ := T
 dsimp only at hl hlg hr hn hS hu hr2 hn2 hk2
 replace hS : St w0 (fps [bchC B (some ⟨Tp, 0, none⟩) m fb, tabC Tp q ⟨dir, rows, G⟩ fp, dkC q mb lb D]) w0 [tbB Tp (some ⟨q, 0, none⟩) dir (some ⟨L, 0, none⟩) mr, rowsC mr rows, lgC L q G fpl, .box B 153 [.pointer (some ⟨Tp, 0, none⟩), .slice A m.length cap, .map (some mb2)], .own (.slice A m.length cap) 9 1 m.length (strs (m.map Prod.fst)), mapC mb2 (mmap encChg m), dkC q mb lb D] (ZL w0 [bchC B (some ⟨Tp, 0, none⟩) m fb, tabC Tp q ⟨dir, rows, G⟩ fp, dkC q mb lb D]) := hS
 by_cases hm0 : m = []
 ·subst hm0
  have hu : (0, ⟨dir, rows, G⟩, D) = (e, T', D') := hu
  cases hu
  clear hnd
  have h0 : (([] : Bch).length : Int) = 0 := rfl
  repeat' (first | (show WL _ _ _ _ _ _ _; first | refine WL.pure rfl rfl rfl rfl ?_ | refine WL.nil ?_ | refine WL.load hS rfl rfl (LdOk.box (by repeat (first | exact Zh | apply List.Mem.tail)) rfl) rfl rfl rfl ?_) | (show WC _ _ _ _ _ _; first | refine WC.seq ?_ | refine WC.region ?_ | refine WC.skip ?_ | refine WC.ret ?_ | refine WC.condF rfl Zr ?_ | refine WC.condT rfl Zd ?_) | refine seqQ_n ?_ | refine seqQ_r ?_)
  have hS := St.objClose (φ := tabφ Tp q ⟨dir, rows, G⟩) (hS.pulls (D := [tbB Tp (some ⟨q, 0, none⟩) dir (some ⟨L, 0, none⟩) mr, rowsC mr rows, lgC L q G fpl]) Pu) ⟨mr, L, fpl, rfl⟩
  have hS := St.objClose (φ := bchφ B (some ⟨Tp, 0, none⟩) []) (hS.pulls (D := [.box B 153 [.pointer (some ⟨Tp, 0, none⟩), .slice A ([] : Bch).length cap, .map (some mb2)], .own (.slice A ([] : Bch).length cap) 9 1 ([] : Bch).length (strs (([] : Bch).map Prod.fst)), mapC mb2 (mmap encChg [])]) Pu) ⟨A, cap, mb2, rfl⟩
  have hleft : bchLeft ⟨dir, rows, G⟩ D [] = [] := by unfold bchLeft; split <;> rfl
  rw [hleft]
  exact fin1r rfl rfl ⟨rfl, _, _, hS.mutLp Pu⟩
 have hmpos : 0 < m.length := List.length_pos_iff.2 hm0
 obtain ⟨ag, ao, rfl⟩ := hS.own_addr (A := A) (n := m.length) (by repeat (first | exact Zh | apply List.Mem.tail)) hmpos
 repeat' (first | (show WL _ _ _ _ _ _ _; first | refine WL.pure rfl rfl rfl rfl ?_ | refine WL.nil ?_ | refine WL.load hS rfl rfl (LdOk.box (by repeat (first | exact Zh | apply List.Mem.tail)) rfl) rfl rfl rfl ?_ | (refine WL.slit (t := 73) hS rfl rfl rfl rfl rfl ?_; intro w ob hS; have hS := hS.boxRow (n := 0) (size := 3) .here rfl (Nat.zero_le _))) | (show WC _ _ _ _ _ _; first | refine WC.seq ?_ | refine WC.region ?_ | refine WC.block ?_ | refine WC.skip ?_ | refine WC.condF rfl Zr ?_ | refine WC.condF rfl (decide_eq_false Zw) ?_) | refine seqQ_n ?_)
 replace hS := hS.droplast2 (D := [.own (.slice (some ⟨ob, 0, none⟩) 0 0) 79 3 0 [], .own (.slice (some ⟨ag, ao, none⟩) m.length cap) 9 1 m.length (strs (m.map Prod.fst)), .box B 153 [.pointer (some ⟨Tp, 0, none⟩), .slice (some ⟨ag, ao, none⟩) m.length cap, .map (some mb2)], mapC mb2 (mmap encChg m), tbB Tp (some ⟨q, 0, none⟩) dir (some ⟨L, 0, none⟩) mr, rowsC mr rows, lgC L q G fpl, dkC q mb lb D]) Pu
 refine WC.loop (σ := Nat × List Chg × Option Addr × Nat) [0, 26, 27] (fun (k, l, A2, cap2) => [(3, .slice A2 l.length cap2), (28, .int .i64 (k : Int))])
  (fun (k, l, A2, cap2) w => k ≤ m.length ∧ l = (m.take k).map Prod.snd ∧ St w0 (fps [bchC B (some ⟨Tp, 0, none⟩) m fb, tabC Tp q ⟨dir, rows, G⟩ fp, dkC q mb lb D]) w [.own (.slice A2 l.length cap2) 79 3 l.length (chgs l), .own (.slice (some ⟨ag, ao, none⟩) m.length cap) 9 1 m.length (strs (m.map Prod.fst)), .box B 153 [.pointer (some ⟨Tp, 0, none⟩), .slice (some ⟨ag, ao, none⟩) m.length cap, .map (some mb2)], mapC mb2 (mmap encChg m), tbB Tp (some ⟨q, 0, none⟩) dir (some ⟨L, 0, none⟩) mr, rowsC mr rows, lgC L q G fpl, dkC q mb lb D] (ZL w0 [bchC B (some ⟨Tp, 0, none⟩) m fb, tabC Tp q ⟨dir, rows, G⟩ fp, dkC q mb lb D]))
  (fun (k, _) => m.length - k) (0, [], some ⟨ob, 0, none⟩, 0) ⟨Nat.zero_le _, rfl, hS⟩ ⟨rfl, rfl, trivial⟩ ?_
 clear hS
 rintro ⟨k, l, A2, cap2⟩ g w ⟨hkk, hleq, hS⟩
 show WC _ _ _ (lf _ [(3, .slice A2 l.length cap2), (28, .int .i64 (k : Int))] _ _) _ _
 have hcap2 := (hS.own_len Zh).2.2
 have hll : l.length = k := by rw [hleq, List.length_map, List.length_take]; omega
 by_cases hlt : k < m.length
 ·clear hu hk2 hr2 hn2 hr
  have hx : (strs (m.map Prod.fst))[k * 1]? = some (str m[k].1) := by rw [Nat.mul_one, strs_at (by rw [List.length_map]; exact hlt), List.getElem_map]
  have hnext : (m.take (k + 1)).map Prod.snd = l ++ [m[k].2] := by rw [List.take_succ_eq_append_getElem hlt, List.map_append, ← hleq]; rfl
  have hlk := look_chg1 m m[k].1
  rw [mget_at hnd hlt] at hlk
  replace hlk : lookV (encChg Chg0) (mmap encChg m) m[k].1 false = encChg m[k].2 := hlk
  generalize m[k].1 = key at *
  generalize m[k].2 = o at *
  obtain ⟨okey, oval, ogone⟩ := o
  clear hleq hnd
  repeat' (first | (show WL _ _ _ _ _ _ _; first | refine WL.pure rfl rfl rfl rfl ?_ | refine WL.nil ?_ | refine WL.load hS rfl rfl (LdOk.box (by repeat (first | exact Zh | apply List.Mem.tail)) rfl) rfl rfl rfl ?_ | refine WL.add rfl rfl rfl Zo rfl rfl rfl ?_ | (refine WL.load hS rfl rfl (LdOk.ownAt (by repeat (first | exact Zh | apply List.Mem.tail)) rfl ⟨_, rfl⟩ hx rfl) rfl rfl rfl ?_) | (refine WL.mget hS rfl rfl rfl rfl (.mk' (by repeat (first | exact Zh | apply List.Mem.tail))) hlk rfl rfl rfl ?_) | (refine WL.app hS rfl rfl rfl rfl (RdOk.box (by repeat (first | exact Zh | apply List.Mem.tail))) rfl rfl (fun A cap => Rp) Zo rfl rfl rfl ?_; intro A3 cap3 w hS) | refine WL.index rfl rfl rfl rfl Zw rfl rfl rfl rfl ?_ | (refine WL.slit hS rfl rfl rfl rfl rfl ?_; intro w b hS)) | (show WC _ _ _ _ _ _; first | refine WC.seq ?_ | refine WC.region ?_ | refine WC.block ?_ | refine WC.skip ?_ | refine WC.condT rfl (decide_eq_true Zw) ?_) | refine seqQ_n ?_ | refine blkQ_n ?_)
  exact rndQ_n (k + 1, l ++ [⟨okey, oval, ogone⟩], A3, cap3) ⟨Zo, hnext.symm, by
   have hS := hS.drop
   rw [List.length_append, ← chgs_snoc]
   exact hS⟩ (by show m.length - (k + 1) < m.length - k; omega) ⟨by rw [List.length_append]; rfl, vint Zo, trivial⟩ ⟨rfl, rfl, rfl, trivial⟩
 ·have hke : k = m.length := Zo
  subst hke
  rw [List.take_length] at hleq
  have hne : l ≠ [] := fun h => by rw [h] at hll; exact hm0 (List.eq_nil_of_length_eq_zero hll.symm)
  unfold tabCommit at hu
  unfold bchLeft
  dsimp only at hu ⊢
  rw [← hleq] at hu hr hr2 hn2 hk2 ⊢
  rw [if_neg hne] at hu
  have hwl := walAdd_len G D (recordE l)
  have hwsm := Dk.Sm.walAdd (G := G) (r := recordE l) hno Zo
  rcases hwa : walAdd G D (recordE l) with ⟨e1, G1, D1⟩
  rw [hwa] at hu hwl hwsm
  dsimp only at hu hwl hwsm ⊢
  have hpl : l.length ≤ 1099511627776 := Zo
  clear hnd hkk
  by_cases he1 : e1 = 0
  rotate_left
  ·rw [if_pos he1] at hu
   cases hu
   rw [if_pos he1]
   clear hwsm hr2 hn2 hk2 hne
   repeat' (first | (show WL _ _ _ _ _ _ _; first | refine WL.pure rfl rfl rfl rfl ?_ | refine WL.nil ?_) | (show WC _ _ _ _ _ _; first | refine WC.seq ?_ | refine WC.region ?_ | refine WC.exit ?_ | refine WC.ret ?_ | (show WC _ _ (Code.region _ (List.toArray [_, _, _, _, _, _, _, _, _, _, _]) true) _ _ _; refine WC.drawL [lgC L q G fpl, dkC q mb lb D] hS Pu [0,1,2,3,4,5,6,7,10] [0,1,2,3,4,5,6,7,8,9,10] Zk Zk ?_; clear hS; intro w hS hM) | refine WC.condT rfl (decide_eq_true Zw) ?_ | refine WC.condF rfl (decide_eq_false Zw) ?_) | (show WD _ _ _ _ _ _ _ _ _; first | refine WD.pure rfl rfl rfl rfl rfl ?_ | refine WD.nil ?_ | refine WD.load rfl rfl (LdOk.box (by repeat (first | exact Zh | apply List.Mem.tail)) rfl) rfl rfl rfl rfl ?_ | (refine WD.calls hS hM rfl rfl (record_c l (St.ownSl Zd hS (by repeat (first | exact Zh | apply List.Mem.tail))) Zo hpl) rfl rfl rfl rfl rfl ?_; clear hS; rintro v w rfl hS) | (refine WD.callL (D := [lgC L q G fpl, dkC q mb lb D]) hS Pu (.refl _ _) rfl rfl (fun hI => add_c (recordE l) hI hwa hlg hno.1 hr (by rw [Dk.step_at]; exact hno.at_ _) Zo) rfl rfl rfl rfl rfl ?_; rintro v w ⟨rfl, fpl2, hm⟩; refine ⟨_, hm, fun hS hM => ?_⟩; clear hm)) | refine seqQ_n ?_ | refine seqQ_x ?_ | refine seqQ_r ?_ | refine blkQ_hit rfl ?_ | refine rndQ_x ?_)
   have hS := St.objClose (φ := tabφ Tp q ⟨dir, rows, G1⟩) (hS.pulls (D := [tbB Tp (some ⟨q, 0, none⟩) dir (some ⟨L, 0, none⟩) mr, rowsC mr rows, lgC L q G1 fpl2]) Pu) ⟨mr, L, fpl2, rfl⟩
   have hS := St.objClose (φ := bchφ B (some ⟨Tp, 0, none⟩) m) (hS.pulls (D := [.box B 153 [.pointer (some ⟨Tp, 0, none⟩), .slice (some ⟨ag, ao, none⟩) m.length cap, .map (some mb2)], .own (.slice (some ⟨ag, ao, none⟩) m.length cap) 9 1 m.length (strs (m.map Prod.fst)), mapC mb2 (mmap encChg m)]) Pu) ⟨some ⟨ag, ao, none⟩, cap, mb2, rfl⟩
   exact fin1r rfl rfl ⟨rfl, _, _, hS.mutLp Pu⟩
  subst he1
  rw [if_neg (fun h => h rfl)] at hu ⊢
  by_cases h16 : 16 ≤ G1.recs.length
  ·rw [if_pos h16] at hu
   have hlg1 : G1.p.length ≤ 1099511620 := by rw [hwl.2]; exact hlg
   have hwl1 := hwl.1
   clear hwl hne
   repeat' (first | (show WL _ _ _ _ _ _ _; first | refine WL.pure rfl rfl rfl rfl ?_ | refine WL.nil ?_ | refine WL.load hS rfl rfl (LdOk.box (by repeat (first | exact Zh | apply List.Mem.tail)) rfl) rfl rfl rfl ?_ | (refine WL.callL (D := [tbB Tp (some ⟨q, 0, none⟩) dir (some ⟨L, 0, none⟩) mr, rowsC mr rows, chgC A2 cap2 l]) hS Pu rfl rfl (fun hI => apply_c hI hpl) rfl rfl rfl ?_; rintro v w ⟨rfl, hm⟩ hS; replace hS := hS _ hm; clear hm) | (refine WL.mmake hS rfl rfl rfl rfl rfl ?_; intro w nb hS) | (refine WL.callL (D := [lgC L q G1 fpl2]) hS Pu rfl rfl (fun hI => records_c hI Zo) rfl rfl rfl ?_; rintro v w ⟨A4, cap4, rfl, hm⟩ hS; replace hS := hS _ hm; clear hm) | (have hS := St.objClose (φ := tabφ Tp q ⟨dir, applyE rows l, G1⟩) (hS.pulls (D := [tbB Tp (some ⟨q, 0, none⟩) dir (some ⟨L, 0, none⟩) mr, rowsC mr (applyE rows l), lgC L q G1 fpl2]) Pu) ⟨mr, L, fpl2, rfl⟩; refine WL.callL (D := [tabC Tp q ⟨dir, applyE rows l, G1⟩ _, dkC q mb lb D1]) hS Pu rfl rfl (fun hI => tpack_c hI hu hl hlg1 hwsm hr2 hn2 hk2) rfl rfl rfl ?_; rintro v w ⟨rfl, fp3, hm⟩ hS; replace hS := hS _ hm; clear hm) | (refine WL.store hS rfl rfl rfl Sb rfl rfl rfl ?_; intro w hS)) | (show WC _ _ _ _ _ _; first | refine WC.seq ?_ | refine WC.region ?_ | refine WC.skip ?_ | refine WC.exit ?_ | refine WC.ret ?_ | (show WC _ _ (Code.region _ (List.toArray [_, _, _, _, _, _, _, _, _, _, _]) true) _ _ _; refine WC.drawL [lgC L q G fpl, dkC q mb lb D] hS Pu [0,1,2,3,4,5,6,7,10] [0,1,2,3,4,5,6,7,8,9,10] Zk Zk ?_; clear hS; intro w hS hM) | refine WC.condF rfl Zd ?_ | refine WC.condT rfl (decide_eq_true Zw) ?_ | refine WC.condF rfl (decide_eq_false Zw) ?_) | (show WD _ _ _ _ _ _ _ _ _; first | refine WD.pure rfl rfl rfl rfl rfl ?_ | refine WD.nil ?_ | refine WD.load rfl rfl (LdOk.box (by repeat (first | exact Zh | apply List.Mem.tail)) rfl) rfl rfl rfl rfl ?_ | (refine WD.calls hS hM rfl rfl (record_c l (St.ownSl Zd hS (by repeat (first | exact Zh | apply List.Mem.tail))) Zo hpl) rfl rfl rfl rfl rfl ?_; clear hS; rintro v w rfl hS) | (refine WD.callL (D := [lgC L q G fpl, dkC q mb lb D]) hS Pu (.refl _ _) rfl rfl (fun hI => add_c (recordE l) hI hwa hlg hno.1 hr (by rw [Dk.step_at]; exact hno.at_ _) Zo) rfl rfl rfl rfl rfl ?_; rintro v w ⟨rfl, fpl2, hm⟩; refine ⟨_, hm, fun hS hM => ?_⟩; clear hm)) | refine seqQ_n ?_ | refine seqQ_x ?_ | refine seqQ_r ?_ | refine blkQ_hit rfl ?_ | refine rndQ_x ?_)
   have hS := hS.nilRow 9 1
   have hS := St.objClose (φ := bchφ B (some ⟨Tp, 0, none⟩) []) (hS.pulls (D := [.box B 153 [.pointer (some ⟨Tp, 0, none⟩), .slice none 0 0, .map (some nb)], .own (.slice none 0 0) 9 1 0 [], mapC nb []]) Pu) ⟨none, 0, nb, rfl⟩
   exact fin1r rfl rfl ⟨rfl, _, _, hS.mutLp Pu⟩
  ·rw [if_neg h16] at hu
   cases hu
   have hwl1 := hwl.1
   clear hwl hne hwsm hr2 hn2 hk2
   repeat' (first | (show WL _ _ _ _ _ _ _; first | refine WL.pure rfl rfl rfl rfl ?_ | refine WL.nil ?_ | refine WL.load hS rfl rfl (LdOk.box (by repeat (first | exact Zh | apply List.Mem.tail)) rfl) rfl rfl rfl ?_ | (refine WL.callL (D := [tbB Tp (some ⟨q, 0, none⟩) dir (some ⟨L, 0, none⟩) mr, rowsC mr rows, chgC A2 cap2 l]) hS Pu rfl rfl (fun hI => apply_c hI hpl) rfl rfl rfl ?_; rintro v w ⟨rfl, hm⟩ hS; replace hS := hS _ hm; clear hm) | (refine WL.mmake hS rfl rfl rfl rfl rfl ?_; intro w nb hS) | (refine WL.callL (D := [lgC L q G1 fpl2]) hS Pu rfl rfl (fun hI => records_c hI Zo) rfl rfl rfl ?_; rintro v w ⟨A4, cap4, rfl, hm⟩ hS; replace hS := hS _ hm; clear hm) | (refine WL.store hS rfl rfl rfl Sb rfl rfl rfl ?_; intro w hS)) | (show WC _ _ _ _ _ _; first | refine WC.seq ?_ | refine WC.region ?_ | refine WC.skip ?_ | refine WC.exit ?_ | refine WC.ret ?_ | (show WC _ _ (Code.region _ (List.toArray [_, _, _, _, _, _, _, _, _, _, _]) true) _ _ _; refine WC.drawL [lgC L q G fpl, dkC q mb lb D] hS Pu [0,1,2,3,4,5,6,7,10] [0,1,2,3,4,5,6,7,8,9,10] Zk Zk ?_; clear hS; intro w hS hM) | refine WC.condF rfl Zd ?_ | refine WC.condF rfl (decide_eq_false Zw) ?_) | (show WD _ _ _ _ _ _ _ _ _; first | refine WD.pure rfl rfl rfl rfl rfl ?_ | refine WD.nil ?_ | refine WD.load rfl rfl (LdOk.box (by repeat (first | exact Zh | apply List.Mem.tail)) rfl) rfl rfl rfl rfl ?_ | (refine WD.calls hS hM rfl rfl (record_c l (St.ownSl Zd hS (by repeat (first | exact Zh | apply List.Mem.tail))) Zo hpl) rfl rfl rfl rfl rfl ?_; clear hS; rintro v w rfl hS) | (refine WD.callL (D := [lgC L q G fpl, dkC q mb lb D]) hS Pu (.refl _ _) rfl rfl (fun hI => add_c (recordE l) hI hwa hlg hno.1 hr (by rw [Dk.step_at]; exact hno.at_ _) Zo) rfl rfl rfl rfl rfl ?_; rintro v w ⟨rfl, fpl2, hm⟩; refine ⟨_, hm, fun hS hM => ?_⟩; clear hm)) | refine seqQ_n ?_ | refine seqQ_x ?_ | refine blkQ_hit rfl ?_ | refine rndQ_x ?_)
   have hS := St.objClose (φ := tabφ Tp q ⟨dir, applyE rows l, G1⟩) (hS.pulls (D := [tbB Tp (some ⟨q, 0, none⟩) dir (some ⟨L, 0, none⟩) mr, rowsC mr (applyE rows l), lgC L q G1 fpl2]) Pu) ⟨mr, L, fpl2, rfl⟩
   have hS := hS.nilRow 9 1
   have hS := St.objClose (φ := bchφ B (some ⟨Tp, 0, none⟩) []) (hS.pulls (D := [.box B 153 [.pointer (some ⟨Tp, 0, none⟩), .slice none 0 0, .map (some nb)], .own (.slice none 0 0) 9 1 0 [], mapC nb []]) Pu) ⟨none, 0, nb, rfl⟩
   exact fin1r rfl rfl ⟨rfl, _, _, hS.mutLp Pu⟩
open Go Go.J Go.RowKit
abbrev sysP : List UInt8 := [115, 121, 115]
abbrev sysL : List UInt8 := [115, 121, 115, 47, 108, 111, 103]
abbrev sysLT : List UInt8 := [115, 121, 115, 47, 108, 111, 103, 95, 116]
abbrev sysB : List UInt8 := [115, 121, 115, 47, 98, 97, 115, 101]
abbrev sysBT : List UInt8 := [115, 121, 115, 47, 98, 97, 115, 101, 95, 116]
def sysF (p : List UInt8) : Prop := p = sysL ∨ p = sysLT ∨ p = sysB ∨ p = sysBT
theorem sysF_ok {p : List UInt8} (h : sysF p) : checkE p 6 = 0 ∧ deepE p = 2 ∧ parentE p = sysP ∧ p ≠ sysP := by
 rcases h with rfl | rfl | rfl | rfl
 all_goals exact ⟨Zk, Zk, Zk, Zd⟩
def Dk.get (D : Dk) (p : List UInt8) : Option It := mget D.items p
theorem Dk.at_get (D : Dk) (p : List UInt8) : D.at p = (D.get p).getD It0 := rfl
theorem Dk.has_get (D : Dk) (p : List UInt8) : D.has p = (D.get p).isSome := rfl
structure Sys (D : Dk) : Prop where
 up : D.down = false
 calm : D.armed < 0
 lim : D.limits = []
 nd : (D.items.map Prod.fst).Nodup
 dir : (D.at sysP).dir = true
 has : D.has sysP = true
 files : ∀ p, sysF p → (D.at p).dir = false
theorem Dk.get_set (D : Dk) (p y : List UInt8) (x : It) : (D.set p x).get y = if y = p then some { x with stamp := IntKind.i64.wrap (D.stamps + 1) } else D.get y := mget_set _ _ _ _
theorem Dk.get_put (D : Dk) (p y : List UInt8) (x : It) : Dk.get { D with items := mset D.items p x } y = if y = p then some x else D.get y := mget_set _ _ _ _
theorem Dk.get_del (D : Dk) (h : (D.items.map Prod.fst).Nodup) (p y : List UInt8) : (D.del p).get y = if y = p then none else D.get y := mget_del _ h _ _
theorem Dk.get_step (D : Dk) (p : List UInt8) : D.step.get p = D.get p := by unfold Dk.get; rw [Dk.step_items]
section
variable {D : Dk}
theorem Sys.stepE (h : Sys D) : D.stepE = 0 := by
 have := h.calm
 unfold Dk.stepE
 rw [if_neg Zo]
theorem Sys.step_eq (h : Sys D) : D.step = { D with steps := IntKind.i64.wrap (D.steps + 1) } := by
 have := h.calm
 unfold Dk.step
 rw [if_neg Zo, if_neg Zo]
theorem Sys.step (h : Sys D) : Sys D.step := by
 rw [h.step_eq]
 exact ⟨h.up, h.calm, h.lim, h.nd, h.dir, h.has, h.files⟩
theorem Sys.may (h : Sys D) {p : List UInt8} (hp : sysF p) : D.may p 1 = 0 := by
 obtain ⟨h1, h2, _, _⟩ := sysF_ok hp
 unfold Dk.may
 rw [h.up, if_neg Zd, if_neg (fun hh => hh h1), if_neg (by rw [h2]; decide)]
theorem Sys.under (h : Sys D) {p : List UInt8} (hp : sysF p) : D.under p = true := by
 obtain ⟨_, h2, h3, _⟩ := sysF_ok hp
 unfold Dk.under
 rw [if_neg (by rw [h2]; decide), h3, h.dir]
theorem Sys.file (h : Sys D) {p : List UInt8} (hp : sysF p) (hh : D.has p = true) : D.file p = 0 := by
 unfold Dk.file
 rw [h.may hp, if_neg (fun hh => hh rfl), if_pos hh, h.files p hp, if_neg Zd]
theorem Sys.set (h : Sys D) {p : List UInt8} {x : It} (hp : sysF p) (hx : x.dir = false) : Sys (D.set p x) := by
 obtain ⟨_, _, _, hne⟩ := sysF_ok hp
 refine ⟨h.up, h.calm, h.lim, mset_nodup h.nd _ _, ?_, ?_, fun y hy => ?_⟩
 ·rw [Dk.at_get, Dk.get_set, if_neg (Ne.symm hne)]; exact h.dir
 ·rw [Dk.has_get, Dk.get_set, if_neg (Ne.symm hne)]; exact h.has
 ·rw [Dk.at_get, Dk.get_set]
  by_cases e : y = p
  ·rw [if_pos e]; exact hx
  ·rw [if_neg e]; exact h.files y hy
theorem Sys.put (h : Sys D) {p : List UInt8} {x : It} (hp : sysF p) (hx : x.dir = false) : Sys { D with items := mset D.items p x } := by
 obtain ⟨_, _, _, hne⟩ := sysF_ok hp
 refine ⟨h.up, h.calm, h.lim, mset_nodup h.nd _ _, ?_, ?_, fun y hy => ?_⟩
 ·rw [Dk.at_get, Dk.get_put, if_neg (Ne.symm hne)]; exact h.dir
 ·rw [Dk.has_get, Dk.get_put, if_neg (Ne.symm hne)]; exact h.has
 ·rw [Dk.at_get, Dk.get_put]
  by_cases e : y = p
  ·rw [if_pos e]; exact hx
  ·rw [if_neg e]; exact h.files y hy
theorem Sys.del (h : Sys D) {p : List UInt8} (hp : sysF p) : Sys (D.del p) := by
 obtain ⟨_, _, _, hne⟩ := sysF_ok hp
 refine ⟨h.up, h.calm, h.lim, mdel_nodup h.nd _, ?_, ?_, fun y hy => ?_⟩
 ·rw [Dk.at_get, Dk.get_del _ h.nd, if_neg (Ne.symm hne)]; exact h.dir
 ·rw [Dk.has_get, Dk.get_del _ h.nd, if_neg (Ne.symm hne)]; exact h.has
 ·rw [Dk.at_get, Dk.get_del _ h.nd]
  by_cases e : y = p
  ·rw [if_pos e]; rfl
  ·rw [if_neg e]; exact h.files y hy
theorem Sys.append (h : Sys D) {p r : List UInt8} (hp : sysF p) (hh : D.has p = true) : (D.append p r).1 = 0 ∧ Sys (D.append p r).2 ∧ ∀ y, (D.append p r).2.get y = if y = p then some { D.at p with data := (D.at p).data ++ r, loose := true, stamp := IntKind.i64.wrap (D.stamps + 1) } else D.get y := by
 have e : D.append p r = (0, D.step.set p { D.at p with data := (D.at p).data ++ r, loose := true }) := by
  unfold Dk.append
  rw [h.file hp hh, if_neg (fun hh => hh rfl), h.stepE, if_neg (fun hh => hh rfl), Dk.step_at]
 rw [e]
 refine ⟨rfl, h.step.set hp (h.files p hp), fun y => ?_⟩
 rw [Dk.get_set, Dk.get_step, h.step_eq]
theorem Sys.sync (h : Sys D) {p : List UInt8} (hp : sysF p) (hh : D.has p = true) : (D.sync p).1 = 0 ∧ Sys (D.sync p).2 ∧ ∀ y, (D.sync p).2.get y = if y = p then some { D.at p with kept := (D.at p).data, loose := false, anew := false } else D.get y := by
 have e : D.sync p = (0, { D.step with items := mset D.step.items p { D.at p with kept := (D.at p).data, loose := false, anew := false } }) := by
  unfold Dk.sync
  rw [h.file hp hh, if_neg (fun hh => hh rfl), h.stepE, if_neg (fun hh => hh rfl), Dk.step_at]
 rw [e]
 refine ⟨rfl, h.step.put hp (h.files p hp), fun y => ?_⟩
 rw [Dk.get_put, Dk.get_step]
theorem Sys.write (h : Sys D) {p r : List UInt8} (hp : sysF p) : (D.write p r).1 = 0 ∧ Sys (D.write p r).2 ∧ ∀ y, (D.write p r).2.get y = if y = p then some { D.at p with data := r, loose := true, anew := true, stamp := IntKind.i64.wrap (D.stamps + 1) } else D.get y := by
 have e : D.write p r = (0, D.step.set p { D.at p with data := r, loose := true, anew := true }) := by
  unfold Dk.write
  rw [h.may hp, if_neg (fun hh => hh rfl), h.under hp, if_neg Zd, h.files p hp, if_neg Zd, h.stepE, if_neg (fun hh => hh rfl)]
 rw [e]
 refine ⟨rfl, h.step.set hp (h.files p hp), fun y => ?_⟩
 rw [Dk.get_set, Dk.get_step, h.step_eq]
theorem Sys.rename (h : Sys D) {p r : List UInt8} (hp : sysF p) (hr : sysF r) (hh : D.has p = true) : (D.rename p r).1 = 0 ∧ Sys (D.rename p r).2 ∧ ∀ y, (D.rename p r).2.get y = if y = r then some { D.at p with stamp := IntKind.i64.wrap (D.stamps + 1) } else if y = p then none else D.get y := by
 have e : D.rename p r = (0, (D.step.del p).set r (D.at p)) := by
  unfold Dk.rename
  rw [h.may hp, if_neg (fun hh => hh rfl), h.may hr, if_neg (fun hh => hh rfl), hh, h.under hr, if_neg (by simp), h.files p hp, h.files r hr, if_neg (by simp), h.stepE, if_neg (fun hh => hh rfl)]
 rw [e]
 refine ⟨rfl, (h.step.del hp).set hr (h.files p hp), fun y => ?_⟩
 rw [Dk.get_set, Dk.get_del _ h.step.nd, Dk.get_step]
 have : (D.step.del p).stamps = D.stamps := by rw [h.step_eq]; rfl
 rw [this]
theorem has_of_get {D : Dk} {p : List UInt8} {x : It} (h : D.get p = some x) : D.has p = true := by rw [Dk.has_get, h]; rfl
theorem at_of_get {D : Dk} {p : List UInt8} {x : It} (h : D.get p = some x) : D.at p = x := by rw [Dk.at_get, h]; rfl
theorem Sys.fill (h : Sys D) {p s : List UInt8} (hp : sysF p) (ht : sysF (p ++ [95, 116])) (hne : p ++ [95, 116] ≠ p) : (D.fill p s).1 = 0 ∧ Sys (D.fill p s).2 ∧ (∃ x, (D.fill p s).2.get p = some x ∧ x.dir = false ∧ x.data = s ∧ x.kept = s ∧ x.loose = false ∧ x.anew = false) ∧ (D.fill p s).2.get (p ++ [95, 116]) = none ∧ ∀ y, y ≠ p → y ≠ p ++ [95, 116] → (D.fill p s).2.get y = D.get y := by
 obtain ⟨w1, w2, w3⟩ := h.write (r := s) ht
 have g1 := w3 (p ++ [95, 116])
 rw [if_pos rfl] at g1
 obtain ⟨s1, s2, s3⟩ := w2.sync ht (has_of_get g1)
 have g2 := s3 (p ++ [95, 116])
 rw [if_pos rfl, at_of_get g1] at g2
 obtain ⟨r1, r2, r3⟩ := s2.rename ht hp (has_of_get g2)
 have e : D.fill p s = ((D.write (p ++ [95, 116]) s).2.sync (p ++ [95, 116])).2.rename (p ++ [95, 116]) p := by
  unfold Dk.fill
  rw [if_neg (fun hh => hh w1), if_neg (fun hh => hh s1)]
 rw [e]
 refine ⟨r1, r2, ⟨_, by rw [r3, if_pos rfl], ?_⟩, by rw [r3, if_neg hne, if_pos rfl], fun y h1 h2 => by rw [r3, if_neg h1, if_neg h2, s3, if_neg h2, w3, if_neg h2]⟩
 rw [at_of_get g2]
 exact ⟨h.files _ ht, rfl, rfl, rfl, rfl⟩
end
open Go Go.J Go.RowKit
def normO (o : Chg) : Chg := if o.gone then ⟨o.key, [], true⟩ else o
structure SmO (o : Chg) : Prop where
 key : o.key.length < 9223372036854775808
 val : o.val.length < 9223372036854775808
theorem drop_app {α : Type} (a b : List α) : (a ++ b).drop a.length = b := by simp
theorem opE_rec (o : Chg) (t : List UInt8) (h : SmO o) : opE (recO o ++ t) = (normO o, (recO o).length, 0) := by
 obtain ⟨key, val, gone⟩ := o
 have hk := h.key
 have hv := h.val
 dsimp only at hk hv
 have p0 : putN 0 = [0] := putN_small Zd
 have p1 : putN 1 = [1] := putN_small Zd
 have hd : ∀ (c : UInt8) (r : List UInt8), ([c] ++ r).drop 1 = r := fun _ _ => rfl
 rcases gone with _ | _
 ·have e : recO ⟨key, val, false⟩ ++ t = [1] ++ (putN key.length ++ (key ++ (putN val.length ++ (val ++ t)))) := by simp [recO, textE]
  have hu : uintE ([1] ++ (putN key.length ++ (key ++ (putN val.length ++ (val ++ t))))) = (1, 1, 0) := by
   have := uintE_put 1 Zo (putN key.length ++ (key ++ (putN val.length ++ (val ++ t))))
   rwa [p1] at this
  have h2 := rtextE_text key (putN val.length ++ (val ++ t)) hk
  have h3 := rtextE_text val t hv
  have hl : (recO ⟨key, val, false⟩).length = 1 + (key.length + (putN key.length).length) + (val.length + (putN val.length).length) := by simp [recO, textE]; omega
  rw [e, hl]
  rw [opE_put (x := key) (y := val) (v := key.length + (putN key.length).length) (z := val.length + (putN val.length).length) hu (by rw [hd]; exact h2) (by
   rw [show 1 + (key.length + (putN key.length).length) = ([1] ++ (putN key.length ++ key)).length by simp; omega, show [1] ++ (putN key.length ++ (key ++ (putN val.length ++ (val ++ t)))) = ([1] ++ (putN key.length ++ key)) ++ (putN val.length ++ (val ++ t)) by simp, drop_app]
   exact h3)]
  rfl
 ·have e : recO ⟨key, val, true⟩ ++ t = [0] ++ (putN key.length ++ (key ++ t)) := by simp [recO, textE]
  have hu : uintE ([0] ++ (putN key.length ++ (key ++ t))) = (0, 1, 0) := by
   have := uintE_put 0 Zo (putN key.length ++ (key ++ t))
   rwa [p0] at this
  have h2 := rtextE_text key t hk
  have hl : (recO ⟨key, val, true⟩).length = 1 + (key.length + (putN key.length).length) := by simp [recO, textE]; omega
  rw [e, hl]
  rw [opE_gone (x := key) (v := key.length + (putN key.length).length) hu (by rw [hd]; exact h2)]
  rfl
theorem opsF_rec : ∀ (l : List Chg) (t : List UInt8), (∀ o ∈ l, SmO o) → opsF l.length (l.flatMap recO ++ t) = (l.map normO, (l.flatMap recO).length, 0)
 |[], t, _ => rfl
 |o :: l, t, h => by
  have ho := opE_rec o (l.flatMap recO ++ t) (h o (List.mem_cons_self ..))
  have ih := opsF_rec l t (fun x hx => h x (List.mem_cons_of_mem _ hx))
  rw [List.flatMap_cons, List.append_assoc, List.length_cons, opsF_s, ho, if_neg (fun h => h rfl)]
  dsimp only
  rw [drop_app, ih, if_neg (fun h => h rfl)]
  simp
theorem opsE_record (l : List Chg) (h : ∀ o ∈ l, SmO o) (hl : l.length < 9223372036854775808) : opsE (recordE l) = (l.map normO, 0) := by
 have hu := uintE_put l.length hl (l.flatMap recO)
 have hf := opsF_rec l [] h
 rw [List.append_nil] at hf
 rw [opsE_of (show uintE (recordE l) = _ from hu)]
 rw [show recordE l = putN l.length ++ l.flatMap recO from rfl, drop_app, hf]
 unfold opsFin
 rw [if_neg (fun h => h rfl)]
 dsimp only
 rw [if_neg (by simp), List.nil_append]
def Clean (l : List Chg) : Prop := ∀ o ∈ l, o.gone = true → o.val = []
theorem norm_clean {l : List Chg} (h : Clean l) : l.map normO = l := by
 have : ∀ o ∈ l, normO o = o := fun o ho => by
  unfold normO
  split
  ·rename_i hg
   have := h o ho hg
   obtain ⟨k, v, g⟩ := o
   dsimp only at hg this
   subst hg this
   rfl
  ·rfl
 rw [List.map_congr_left this, List.map_id']
def setF (f : List UInt8 → Option (List UInt8)) (o : Chg) : List UInt8 → Option (List UInt8) := fun y => if y = o.key then (if o.gone then none else some o.val) else f y
def applyF (f : List UInt8 → Option (List UInt8)) (l : List Chg) : List UInt8 → Option (List UInt8) := l.foldl setF f
def RowsAre (rows : Rws) (f : List UInt8 → Option (List UInt8)) : Prop := (rows.map Prod.fst).Nodup ∧ ∀ k, mget rows k = f k
theorem RowsAre.nil : RowsAre [] fun _ => none := ⟨by simp, fun _ => rfl⟩
theorem RowsAre.one {rows : Rws} {f : List UInt8 → Option (List UInt8)} (h : RowsAre rows f) (o : Chg) : RowsAre (if o.gone then mdel rows o.key else mset rows o.key o.val) (setF f o) := by
 unfold setF
 split
 ·refine ⟨mdel_nodup h.1 _, fun k => ?_⟩
  rw [mget_del _ h.1, h.2]
 ·refine ⟨mset_nodup h.1 _ _, fun k => ?_⟩
  rw [mget_set, h.2]
theorem RowsAre.apply : ∀ {l : List Chg} {rows : Rws} {f : List UInt8 → Option (List UInt8)}, RowsAre rows f → RowsAre (applyE rows l) (applyF f l)
 |[], _, _, h => h
 |o :: l, rows, f, h => by
  rw [applyE_cons]
  exact RowsAre.apply (h.one o)
theorem keysE_perm {β : Type} (m : List (List UInt8 × β)) : (keysE m).Perm (m.map Prod.fst) := List.mergeSort_perm _ _
theorem mget_of_mem : ∀ {rows : Rws} {k v : List UInt8}, (rows.map Prod.fst).Nodup → (k, v) ∈ rows → mget rows k = some v
 |[], _, _, _, h => by cases h
 |(a, b) :: r, k, v, hn, h => by
  have hn' : a ∉ r.map Prod.fst ∧ (r.map Prod.fst).Nodup := by simpa using hn
  unfold mget
  rcases List.mem_cons.1 h with h | h
  ·cases h; rw [if_pos rfl]
  ·have : ¬ k = a := fun e => hn'.1 (by rw [← e]; exact List.mem_map_of_mem (f := Prod.fst) h)
   rw [if_neg this]
   exact mget_of_mem hn'.2 h
theorem packL_perm {rows : Rws} (hn : (rows.map Prod.fst).Nodup) : (packL rows).Perm (rows.map fun p => (⟨p.1, p.2, false⟩ : Chg)) := by
 unfold packL
 refine ((keysE_perm rows).map _).trans ?_
 rw [List.map_map]
 have : ∀ p ∈ rows, (rowOp rows ∘ Prod.fst) p = (⟨p.1, p.2, false⟩ : Chg) := fun p hp => by
  show (⟨p.1, (mget rows p.1).getD [], false⟩ : Chg) = _
  rw [mget_of_mem hn hp]
  rfl
 rw [List.map_congr_left this]
theorem applyF_put : ∀ (l : List Chg) (f : List UInt8 → Option (List UInt8)), (∀ o ∈ l, o.gone = false) → (l.map (·.key)).Nodup → ∀ k, applyF f l k = match l.find? (fun o => decide (o.key = k)) with | some o => some o.val | none => f k
 |[], f, _, _, k => rfl
 |o :: l, f, hg, hn, k => by
  have hn' : o.key ∉ l.map (·.key) ∧ (l.map (·.key)).Nodup := by simpa using hn
  have ih := applyF_put l (setF f o) (fun x hx => hg x (List.mem_cons_of_mem _ hx)) hn'.2 k
  show applyF (setF f o) l k = _
  rw [ih, List.find?_cons]
  by_cases e : o.key = k
  ·have hno : l.find? (fun o => decide (o.key = k)) = none := by
    rw [List.find?_eq_none]
    intro x hx h
    have hxk : x.key = k := by simpa using h
    exact hn'.1 (by rw [e, ← hxk]; exact List.mem_map_of_mem hx)
   rw [hno, decide_eq_true e]
   simp only [setF]
   rw [if_pos e.symm, hg o (List.mem_cons_self ..)]
   rfl
  ·rw [decide_eq_false e]
   cases hf : l.find? (fun o => decide (o.key = k)) with
   |none => simp only [setF]; rw [if_neg (fun h => e h.symm)]
   |some x => rfl
theorem packL_gone (rows : Rws) : ∀ o ∈ packL rows, o.gone = false := fun o ho => by
 obtain ⟨k, _, rfl⟩ := List.mem_map.1 ho
 rfl
theorem packL_clean (rows : Rws) : Clean (packL rows) := fun o ho h => by rw [packL_gone rows o ho] at h; cases h
theorem packL_keys (rows : Rws) : (packL rows).map (·.key) = keysE rows := by unfold packL; rw [List.map_map]; exact List.map_id'' (fun _ => rfl) _
theorem packL_rows {rows : Rws} {f : List UInt8 → Option (List UInt8)} (h : RowsAre rows f) : ∀ k, applyF (fun _ => none) (packL rows) k = f k := by
 intro k
 have hnk : (keysE rows).Nodup := (keysE_perm rows).nodup_iff.2 h.1
 rw [applyF_put _ _ (packL_gone rows) (by rw [packL_keys]; exact hnk) k]
 have hfind : (packL rows).find? (fun o => decide (o.key = k)) = if k ∈ keysE rows then some (rowOp rows k) else none := by
  unfold packL
  generalize keysE rows = ks
  induction ks with
  |nil => rfl
  |cons a ks ih =>
   rw [List.map_cons, List.find?_cons]
   by_cases e : a = k
   ·subst e
    have : decide ((rowOp rows a).key = a) = true := decide_eq_true rfl
    rw [this, if_pos (List.mem_cons_self ..)]
   ·have : decide ((rowOp rows a).key = k) = false := decide_eq_false e
    rw [this]
    simp only
    rw [ih]
    by_cases hm : k ∈ ks
    ·rw [if_pos hm, if_pos (List.mem_cons_of_mem _ hm)]
    ·rw [if_neg hm, if_neg (fun h => by rcases List.mem_cons.1 h with h | h; exact e h.symm; exact hm h)]
 rw [hfind]
 by_cases hm : k ∈ keysE rows
 ·rw [if_pos hm]
  have hm2 : k ∈ rows.map Prod.fst := (keysE_perm rows).mem_iff.1 hm
  obtain ⟨p, hp, he⟩ := List.mem_map.1 hm2
  have hg := mget_of_mem h.1 (show (k, p.2) ∈ rows by rw [← he]; exact hp)
  show some ((mget rows k).getD []) = f k
  rw [← h.2 k, hg]
  rfl
 ·rw [if_neg hm]
  have hm2 : k ∉ rows.map Prod.fst := fun h => hm ((keysE_perm rows).mem_iff.2 h)
  rw [← h.2 k, mget_none.2 hm2]
def szO (o : Chg) : Nat := o.key.length + o.val.length + 32
def szL (l : List Chg) : Nat := (l.map szO).sum
def szR (rows : Rws) : Nat := (rows.map fun p => p.1.length + p.2.length + 32).sum
theorem recO_len (o : Chg) (h : SmO o) : (recO o).length ≤ szO o := by
 have h1 := putN_len10 (n := o.key.length) (by have := h.key; omega)
 have h2 := putN_len10 (n := o.val.length) (by have := h.val; omega)
 unfold recO szO
 split
 ·simp [textE]; omega
 ·simp [textE]; omega
theorem recordE_len (l : List Chg) (h : ∀ o ∈ l, SmO o) (hl : l.length < 9223372036854775808) : (recordE l).length ≤ 10 + szL l := by
 have h1 := putN_len10 (n := l.length) Zo
 have h2 : ∀ l : List Chg, (∀ o ∈ l, SmO o) → (l.flatMap recO).length ≤ szL l := by
  intro l
  induction l with
  |nil => intro _; simp
  |cons o l ih =>
   intro h
   have a := recO_len o (h o (List.mem_cons_self ..))
   have b := ih fun x hx => h x (List.mem_cons_of_mem _ hx)
   simp only [List.flatMap_cons, List.length_append, szL, List.map_cons, List.sum_cons] at b ⊢
   omega
 have := h2 l h
 unfold recordE
 rw [List.length_append]
 omega
theorem szL_len (l : List Chg) : 32 * l.length ≤ szL l := by
 induction l with
 |nil => simp
 |cons o l ih => simp only [szL, List.map_cons, List.sum_cons, List.length_cons, szO] at ih ⊢; omega
theorem szL_mem {l : List Chg} {o : Chg} (h : o ∈ l) : szO o ≤ szL l := by
 induction l with
 |nil => cases h
 |cons x l ih =>
  simp only [szL, List.map_cons, List.sum_cons] at ih ⊢
  rcases List.mem_cons.1 h with rfl | h
  ·omega
  ·have := ih h; omega
theorem szR_len (rows : Rws) : 32 * rows.length ≤ szR rows := by
 induction rows with
 |nil => simp
 |cons o l ih => simp only [szR, List.map_cons, List.sum_cons, List.length_cons] at ih ⊢; omega
theorem szR_mem {rows : Rws} {p : List UInt8 × List UInt8} (h : p ∈ rows) : p.1.length + p.2.length + 32 ≤ szR rows := by
 induction rows with
 |nil => cases h
 |cons x l ih =>
  simp only [szR, List.map_cons, List.sum_cons] at ih ⊢
  rcases List.mem_cons.1 h with rfl | h
  ·omega
  ·have := ih h; omega
theorem szR_set (rows : Rws) (k v : List UInt8) : szR (mset rows k v) ≤ szR rows + (k.length + v.length + 32) := by
 induction rows with
 |nil => simp [mset, szR]
 |cons p r ih =>
  obtain ⟨a, u⟩ := p
  unfold mset
  split
  ·rename_i h; subst h; simp only [szR, List.map_cons, List.sum_cons]; omega
  ·simp only [szR, List.map_cons, List.sum_cons] at ih ⊢; omega
theorem szR_del (rows : Rws) (k : List UInt8) : szR (mdel rows k) ≤ szR rows := by
 induction rows with
 |nil => simp [mdel]
 |cons p r ih =>
  obtain ⟨a, u⟩ := p
  unfold mdel
  split
  ·simp only [szR, List.map_cons, List.sum_cons]; omega
  ·simp only [szR, List.map_cons, List.sum_cons] at ih ⊢; omega
theorem szR_apply : ∀ (l : List Chg) (rows : Rws), szR (applyE rows l) ≤ szR rows + szL l
 |[], rows => by simp [applyE, szL]
 |o :: l, rows => by
  rw [applyE_cons]
  have h := szR_apply l (if o.gone then mdel rows o.key else mset rows o.key o.val)
  have h2 : szR (if o.gone then mdel rows o.key else mset rows o.key o.val) ≤ szR rows + szO o := by
   split
   ·exact Nat.le_trans (szR_del _ _) (Nat.le_add_right _ _)
   ·exact szR_set _ _ _
  simp only [szL, List.map_cons, List.sum_cons] at h ⊢
  omega
theorem szL_perm {l l' : List Chg} (h : l.Perm l') : szL l = szL l' := (h.map szO).sum_nat
theorem szL_pack {rows : Rws} (hn : (rows.map Prod.fst).Nodup) : szL (packL rows) = szR rows := by
 rw [szL_perm (packL_perm hn)]
 unfold szL szR
 rw [List.map_map]
 rfl
theorem smO_of {l : List Chg} (h : szL l < 9223372036854775808) : ∀ o ∈ l, SmO o := fun o ho => by
 have := szL_mem ho
 unfold szO at this
 exact ⟨Zo, Zo⟩
open Go Go.J Go.RowKit
def Kept (D : Dk) (p s : List UInt8) : Prop := ∃ x, D.get p = some x ∧ x.dir = false ∧ x.data = s ∧ x.kept = s ∧ x.loose = false ∧ x.anew = false
def baseIs (D : Dk) : Option (List Chg) → Prop
 |none => D.get sysB = none
 |some ops => Kept D sysB (packE (recordE ops))
structure TabSt (D : Dk) (bs : Option (List Chg)) (ls : List (List Chg)) : Prop where
 sys : Sys D
 log : Kept D sysL (frames (ls.map recordE))
 base : baseIs D bs
structure TabWf (bs : Option (List Chg)) (ls : List (List Chg)) : Prop where
 few : ls.length < 16
 clean : ∀ l ∈ ls, Clean l
 small : ∀ l ∈ ls, szL l ≤ 1073000000
 bclean : Clean (bs.getD [])
 bsmall : szL (bs.getD []) ≤ 274877906944
def rowsOf (bs : Option (List Chg)) (ls : List (List Chg)) : Rws := ls.foldl applyE (applyE [] (bs.getD []))
def rowsF (bs : Option (List Chg)) (ls : List (List Chg)) : List UInt8 → Option (List UInt8) := ls.foldl applyF (applyF (fun _ => none) (bs.getD []))
theorem rowsAre_fold : ∀ {ls : List (List Chg)} {rows : Rws} {f : List UInt8 → Option (List UInt8)}, RowsAre rows f → RowsAre (ls.foldl applyE rows) (ls.foldl applyF f)
 |[], _, _, h => h
 |l :: ls, _, _, h => rowsAre_fold (ls := ls) h.apply
theorem rowsOf_are (bs : Option (List Chg)) (ls : List (List Chg)) : RowsAre (rowsOf bs ls) (rowsF bs ls) := rowsAre_fold RowsAre.nil.apply
theorem szR_fold : ∀ (ls : List (List Chg)) (rows : Rws) (C : Nat), (∀ l ∈ ls, szL l ≤ C) → szR (ls.foldl applyE rows) ≤ szR rows + ls.length * C
 |[], rows, C, _ => by simp
 |l :: ls, rows, C, h => by
  have h1 := szR_fold ls (applyE rows l) C fun x hx => h x (List.mem_cons_of_mem _ hx)
  have h2 := szR_apply l rows
  have h3 := h l (List.mem_cons_self ..)
  simp only [List.foldl_cons, List.length_cons, Nat.add_mul]
  omega
theorem TabWf.rows {bs : Option (List Chg)} {ls : List (List Chg)} (h : TabWf bs ls) : szR (rowsOf bs ls) ≤ 274877906944 + 17168000000 := by
 have h1 := szR_fold ls (applyE [] (bs.getD [])) 1073000000 h.small
 have h2 := szR_apply (bs.getD []) []
 have h3 := h.bsmall
 have h4 : ls.length * 1073000000 ≤ 16 * 1073000000 := Nat.mul_le_mul_right _ (by have := h.few; omega)
 have h5 : szR ([] : Rws) = 0 := rfl
 unfold rowsOf
 omega
theorem replay_recs : ∀ (ls : List (List Chg)) (rows : Rws), (∀ l ∈ ls, Clean l) → (∀ l ∈ ls, szL l ≤ 1073000000) → replay rows (ls.map recordE) = (0, ls.foldl applyE rows)
 |[], rows, _, _ => rfl
 |l :: ls, rows, hc, hs => by
  have h1 := hs l (List.mem_cons_self ..)
  have h2 := szL_len l
  have ho := opsE_record l (smO_of Zo) Zo
  rw [norm_clean (hc l (List.mem_cons_self ..))] at ho
  rw [List.map_cons, replay_cons, ho, if_neg (fun h => h rfl)]
  exact replay_recs ls _ (fun x hx => hc x (List.mem_cons_of_mem _ hx)) (fun x hx => hs x (List.mem_cons_of_mem _ hx))
theorem rec_small {l : List Chg} (h : szL l ≤ 1073000000) : (recordE l).length ≤ 1073741824 := by
 have h2 := szL_len l
 have := recordE_len l (smO_of Zo) Zo
 omega
theorem frames_len : ∀ (rs : List (List UInt8)) (C : Nat), (∀ r ∈ rs, r.length ≤ C) → C < 9223372036854775808 → (frames rs).length ≤ rs.length * (C + 14)
 |[], C, _, _ => by simp [frames]
 |r :: rs, C, h, hC => by
  have h1 := frames_len rs C (fun x hx => h x (List.mem_cons_of_mem _ hx)) hC
  have h2 := h r (List.mem_cons_self ..)
  have h3 := packE_len r
  have h4 := putN_len10 (n := r.length) Zo
  simp only [frames, List.flatMap_cons, List.length_append, List.length_cons, Nat.add_mul] at h1 ⊢
  omega
theorem readE_pack0 (s : List UInt8) (h : s.length < 9223372036854775808) : readE (packE s) = (s, (packE s).length, 0) := by
 have := readE_pack s [] h
 rwa [List.append_nil] at this
section
variable {D : Dk} {bs : Option (List Chg)} {ls : List (List Chg)}
theorem Kept.has {p s : List UInt8} (h : Kept D p s) : D.has p = true := by obtain ⟨x, h1, _⟩ := h; exact has_of_get h1
theorem Kept.data {p s : List UInt8} (h : Kept D p s) : (D.at p).data = s ∧ (D.at p).dir = false := by
 obtain ⟨x, h1, h2, h3, _⟩ := h
 rw [at_of_get h1]
 exact ⟨h3, h2⟩
theorem Kept.read {p s : List UInt8} (h : Kept D p s) (hs : Sys D) : D.read p = (s, 0) := by
 obtain ⟨h1, h2⟩ := h.data
 unfold Dk.read
 rw [hs.up, if_neg Zd, h.has, if_neg Zd, h2, if_neg Zd, h1]
theorem Kept.kind {p s : List UInt8} (h : Kept D p s) : D.kind p = 2 := by
 obtain ⟨h1, h2⟩ := h.data
 unfold Dk.kind
 rw [h.has, if_pos rfl, h2, if_neg Zd]
theorem Sys.kindP (h : Sys D) : D.kind sysP = 1 := by
 unfold Dk.kind
 rw [h.has, if_pos rfl, h.dir, if_pos rfl]
theorem TabSt.walOpen (h : TabSt D bs ls) (hw : TabWf bs ls) : walOpen D sysL = (0, some ⟨sysL, ls.map recordE, false⟩, D) := by
 have hrs : ∀ r ∈ ls.map recordE, r.length < 9223372036854775808 := fun r hr => by
  obtain ⟨l, hl, rfl⟩ := List.mem_map.1 hr
  have := rec_small (hw.small l hl)
  omega
 unfold Go.Proofs.YtccfiohagbneaaaGreatDoor.walOpen
 rw [h.log.kind, if_neg Zd, h.log.read h.sys]
 dsimp only
 rw [if_neg (fun h => h rfl), scanE_whole _ hrs]
 rfl
theorem TabSt.open (h : TabSt D bs ls) (hw : TabWf bs ls) : tabOpen D sysP = (0, some ⟨sysP, rowsOf bs ls, ⟨sysL, ls.map recordE, false⟩⟩, D) := by
 have hmk : tabMk D sysP = (0, D) := by unfold tabMk; rw [h.sys.kindP, if_neg Zd]
 have hwo := h.walOpen hw
 have hb : tabBase D sysP = (0, applyE [] (bs.getD [])) := by
  have hbp : baseP sysP = sysB := rfl
  unfold tabBase
  rw [hbp]
  have hbase := h.base
  cases bs with
  |none =>
   have hbase : D.get sysB = none := hbase
   have hk : D.kind sysB = 0 := by unfold Dk.kind; rw [Dk.has_get, hbase]; rfl
   rw [if_pos hk]
   rfl
  |some ops =>
   have hbase : Kept D sysB (packE (recordE ops)) := hbase
   have hsm : szL ops ≤ 274877906944 := hw.bsmall
   have hl := szL_len ops
   have hrl := recordE_len ops (smO_of Zo) Zo
   have ho := opsE_record ops (smO_of Zo) Zo
   rw [norm_clean (show Clean ops from hw.bclean)] at ho
   rw [hbase.kind, if_neg Zd]
   unfold tabLoad
   rw [hbp, hbase.read h.sys]
   dsimp only
   rw [if_neg (fun h => h rfl), readE_pack0 _ Zo]
   dsimp only
   rw [if_neg (fun h => h rfl), if_neg (Nat.lt_irrefl _), ho]
   dsimp only
   rw [if_neg (fun h => h rfl)]
   rfl
 unfold tabOpen
 rw [hmk]
 dsimp only
 rw [if_neg (fun h => h rfl), hb]
 dsimp only
 rw [if_neg (fun h => h rfl), show logP sysP = sysL from rfl, hwo]
 unfold tabLog
 dsimp only
 rw [replay_recs ls _ hw.clean hw.small, if_neg (fun h => h rfl)]
 rfl
theorem sysF_L : sysF sysL := .inl rfl
theorem sysF_LT : sysF sysLT := .inr (.inl rfl)
theorem sysF_B : sysF sysB := .inr (.inr (.inl rfl))
theorem sysF_BT : sysF sysBT := .inr (.inr (.inr rfl))
theorem Sys.walAdd (h : Sys D) {s : List UInt8} (hk : Kept D sysL s) (recs : List (List UInt8)) (dmg : Bool) (r : List UInt8) :
  ∃ D', walAdd ⟨sysL, recs, dmg⟩ D r = (0, ⟨sysL, recs ++ [r], dmg⟩, D') ∧ Sys D' ∧ Kept D' sysL (s ++ packE r) ∧ ∀ y, y ≠ sysL → D'.get y = D.get y := by
 obtain ⟨a1, a2, a3⟩ := h.append (r := packE r) sysF_L hk.has
 have g1 := a3 sysL
 rw [if_pos rfl] at g1
 obtain ⟨s1, s2, s3⟩ := a2.sync sysF_L (has_of_get g1)
 have g2 := s3 sysL
 rw [if_pos rfl, at_of_get g1] at g2
 obtain ⟨d1, d2⟩ := hk.data
 refine ⟨((D.append sysL (packE r)).2.sync sysL).2, ?_, s2, ⟨_, g2, d2, by rw [← d1], by rw [← d1], rfl, rfl⟩, fun y hy => by rw [s3, if_neg hy, a3, if_neg hy]⟩
 unfold Go.Proofs.YtccfiohagbneaaaGreatDoor.walAdd
 dsimp only
 rw [if_neg (fun hh => hh a1), if_neg (fun hh => hh s1)]
 rfl
theorem baseIs_same {D D' : Dk} (h : D'.get sysB = D.get sysB) {bs : Option (List Chg)} (hb : baseIs D bs) : baseIs D' bs := by
 cases bs with
 |none => exact h.trans hb
 |some ops => obtain ⟨x, h1, h2⟩ := hb; exact ⟨x, h.trans h1, h2⟩
theorem TabSt.pack (h : Sys D) (rows : Rws) (recs : List (List UInt8)) (dmg : Bool) : ∃ D', tabPack ⟨sysP, rows, ⟨sysL, recs, dmg⟩⟩ D = (0, ⟨sysP, rows, ⟨sysL, [], dmg⟩⟩, D') ∧ TabSt D' (some (packL rows)) [] := by
 obtain ⟨f1, f2, f3, f4, f5⟩ := h.fill (p := sysB) (s := packE (recordE (packL rows))) sysF_B sysF_BT Zd
 obtain ⟨g1, g2, g3, g4, g5⟩ := f2.fill (p := sysL) (s := []) sysF_L sysF_LT Zd
 refine ⟨_, ?_, ⟨g2, g3, ?_⟩⟩
 ·unfold tabPack
  dsimp only
  rw [show baseP sysP = sysB from rfl, if_neg (fun hh => hh f1), g1]
  rfl
 ·obtain ⟨x, h1, h2⟩ := f3
  exact ⟨x, by rw [g5 sysB Zd Zd]; exact h1, h2⟩
theorem map_snoc (ls : List (List Chg)) (ops : List Chg) : ls.map recordE ++ [recordE ops] = (ls ++ [ops]).map recordE := by simp
theorem TabSt.commit (h : TabSt D bs ls) (rows : Rws) (ops : List Chg) (hne : ops ≠ []) (hf : ls.length < 15) :
  ∃ D', tabCommit ⟨sysP, rows, ⟨sysL, ls.map recordE, false⟩⟩ D ops = (0, ⟨sysP, applyE rows ops, ⟨sysL, (ls ++ [ops]).map recordE, false⟩⟩, D') ∧ TabSt D' bs (ls ++ [ops]) := by
 obtain ⟨D', hwa, hs, hk, hg⟩ := h.sys.walAdd h.log (ls.map recordE) false (recordE ops)
 refine ⟨D', ?_, hs, ?_, baseIs_same (hg _ Zd) h.base⟩
 ·unfold tabCommit
  dsimp only
  rw [if_neg hne, hwa]
  dsimp only
  rw [if_neg (fun hh => hh rfl), if_neg (by simp; omega), map_snoc]
 ·rw [← map_snoc, frames_app, frames_one]
  exact hk
end
def Dt0 : Dk := ⟨[(sysP, { It0 with dir := true }), (sysL, ⟨false, [], [], false, false, 2⟩)], [], 4, 2, -1, false⟩
open Go Go.J Go.RowKit
theorem getE_of {rows : Rws} {f : List UInt8 → Option (List UInt8)} (h : RowsAre rows f) (k : List UInt8) : getE rows k = ((f k).getD [], (f k).isSome) := by unfold getE; rw [h.2]
open Go Go.J Go.RowKit Go.ChangeShapes Go.WideShapes Go.ChangeAt Go.Deep
def QChg (o : Chg) (b : Nat) : Prop := o.key.length + o.val.length + 4 ≤ b
theorem Opens.bool {P : Program} {t : TypeId} (ht : P.underlying t = some .bool) : Opens P t cBool (fun _ b => 1 ≤ b) := by
 intro H enc W fuel cs x h
 obtain ⟨b, rfl, rfl⟩ := DataW.trod_bool ht h
 exact ⟨b, rfl, by simp [Rows.uptoBulk]⟩
instance : Inhabited Chg := ⟨Chg0⟩
def fillE (m : Bch) (l : List Chg) : Bch := l.foldl (fun m o => noteE m (normO o)) m
structure BchOk (m : Bch) : Prop where
 nd : (m.map Prod.fst).Nodup
 key : ∀ p ∈ m, p.1 = p.2.key
 clean : Clean (m.map Prod.snd)
theorem mset_mem {β : Type} {m : List (List UInt8 × β)} {x : List UInt8} {v : β} {p : List UInt8 × β} (h : p ∈ mset m x v) : p ∈ m ∨ p = (x, v) := by
 induction m with
 |nil => simp [mset] at h; exact .inr h
 |cons a r ih =>
  obtain ⟨k, u⟩ := a
  unfold mset at h
  split at h
  ·rename_i e
   rcases List.mem_cons.1 h with rfl | h
   ·exact .inr (by rw [e])
   ·exact .inl (List.mem_cons_of_mem _ h)
  ·rcases List.mem_cons.1 h with rfl | h
   ·exact .inl (List.mem_cons_self ..)
   ·rcases ih h with h | h
    ·exact .inl (List.mem_cons_of_mem _ h)
    ·exact .inr h
theorem normO_clean (o : Chg) : (normO o).gone = true → (normO o).val = [] := by
 unfold normO
 split
 ·intro _; rfl
 ·rename_i h; intro hg; exact absurd hg h
theorem BchOk.nil : BchOk [] := ⟨by simp, by simp, by intro o ho; simp at ho⟩
theorem BchOk.note {m : Bch} (h : BchOk m) (o : Chg) : BchOk (noteE m (normO o)) := by
 refine ⟨mset_nodup h.nd _ _, fun p hp => ?_, fun x hx => ?_⟩
 ·rcases mset_mem hp with hp | rfl
  ·exact h.key p hp
  ·rfl
 ·obtain ⟨p, hp, rfl⟩ := List.mem_map.1 hx
  rcases mset_mem hp with hp | rfl
  ·exact h.clean _ (List.mem_map_of_mem hp)
  ·exact normO_clean o
theorem BchOk.fill : ∀ {l : List Chg} {m : Bch}, BchOk m → BchOk (fillE m l)
 |[], _, h => h
 |o :: l, m, h => BchOk.fill (l := l) (h.note o)
def wantE (k : List UInt8) (w : List UInt8 × Bool) (o : Chg) : List UInt8 × Bool := if o.key = k then (if o.gone then [] else o.val, !o.gone) else w
section
variable {α : Type} {c : Cod α} {w0 w : World} {M : List Nat} {H : List Chunk} {Z : List Snap} {z : Snap} {k : Chunk}
end
end Go.Proofs.YtccfiohagbneaaaGreatDoor

namespace Go.J
open Go Go.RowKit
section
variable {P : Program} {N : Fz} {f : Fr} {w w0 : World} {Q : Post} {ops l : List Oper} {o : Oper} {M : List Nat} {H H' : List Chunk} {Z : List Snap} {ρ : Operand → Value}
theorem run_remU {ty ty' : TypeId} {x y : Operand} {a b : Int} (ho : o.op = .binOp .rem ty x y ty') (hx : ρ x = .int .u64 a) (hy : ρ y = .int .u64 b) (ha : 0 ≤ a) (hb : 0 < b ∧ b < 18446744073709551616) :
  (execOp ρ o).run P w = .ok (.value (.int .u64 (a % b))) w := by
 have h0 : ¬ b = 0 := Zo
 have h1 : (eqGuard .rem ty x y (.int .u64 a) (.int .u64 b)).run P w = .ok () w := by simp [eqGuard]
 have h2 : (binOp .rem ty (.int .u64 a) (.int .u64 b)).run P w = .ok (.int .u64 (a % b)) w := by
  have e1 := Int.emod_nonneg a h0
  have e2 := Int.emod_lt_of_pos a hb.1
  have e3 : IntKind.u64.wrap (a % b) = a % b := by rw [IntKind.wrap_u64]; omega
  simp [binOp, Op.intDiv, h0, Int.tmod_eq_emod_of_nonneg ha, e3]
 simp only [execOp, ho, hx, hy, Sem.run_bind, h1, h2, Result.andThen_ok]
 rfl
theorem WL.remU {ty ty' : TypeId} {x y : Operand} {a b : Int} (ho : o.op = .binOp .rem ty x y ty') (hx : ev f x = .int .u64 a) (hy : ev f y = .int .u64 b) (ha : 0 ≤ a) (hb : 0 < b ∧ b < 18446744073709551616)
  (hg : wants ops f o = true) {d : Nat} (hd : o.dst = some d) (hn : N.ok d = true) (h : WL P N ops l (up f d (.int .u64 (a % b))) w Q) : WL P N ops (o :: l) f w Q := .val hg hd hn (run_remU ho hx hy ha hb) h
theorem wrapU {a : Int} (h : 0 ≤ a ∧ a < 18446744073709551616) : IntKind.u64.wrap a = a := by rw [IntKind.wrap_u64]; omega
theorem WL.subU {ty ty' : TypeId} {x y : Operand} {a b : Int} (ho : o.op = .binOp .sub ty x y ty') (hx : ev f x = .int .u64 a) (hy : ev f y = .int .u64 b) (hr : 0 ≤ a - b ∧ a - b < 18446744073709551616)
  (hg : wants ops f o = true) {d : Nat} (hd : o.dst = some d) (hn : N.ok d = true) (h : WL P N ops l (up f d (.int .u64 (a - b))) w Q) : WL P N ops (o :: l) f w Q := by
 refine WL.subW ho hx hy hg hd hn ?_
 rw [wrapU hr]; exact h
def toU64 (P : Program) (s d : TypeId) : Bool := match P.underlying s, P.underlying d with
 |some (.int _), some (.int .u64) => true
 |_, _ => false
theorem WL.convU {s d' : TypeId} {x : Operand} {k : IntKind} {a : Int} (ho : o.op = .convert s d' x) (ht : toU64 P s d' = true) (hx : ev f x = .int k a) (hr : 0 ≤ a ∧ a < 18446744073709551616)
  (hg : wants ops f o = true) {d : Nat} (hd : o.dst = some d) (hn : N.ok d = true) (h : WL P N ops l (up f d (.int .u64 a)) w Q) : WL P N ops (o :: l) f w Q := by
 refine .pure (v := .int .u64 a) ?_ hg hd hn h
 unfold toU64 at ht
 split at ht
 ·rename_i k1 h1 h2
  unfold pureV
  rw [ho]
  simp only [pureOp, h1, h2, hx, wrapU hr]
  rfl
 ·cases ht
end
section
variable {P : Program} {N : Fz} {f : Fr} {w w0 : World} {Q : Post} {ops : List Oper} {M : List Nat} {H0 H H' : List Chunk} {Z0 Z : List Snap} {q : Qs} {l : List Nat} {i : Nat} {S : World → Prop}
theorem WD.remU {ty ty' : TypeId} {x y : Operand} {a b : Int} (ho : (ix ops i).op = .binOp .rem ty x y ty') (hx : ev f x = .int .u64 a) (hy : ev f y = .int .u64 b) (ha : 0 ≤ a) (hb : 0 < b ∧ b < 18446744073709551616)
  (hq : q.contains i = true) (hg : wants ops f (ix ops i) = true) {d : Nat} (hd : (ix ops i).dst = some d) (hn : N.ok d = true) (h : WD P N S ops q l (up f d (.int .u64 (a % b))) w Q) : WD P N S ops q (i :: l) f w Q :=
 .take hq hd hn (.inl ⟨hg, fun _ _ => run_remU ho hx hy ha hb⟩) h
theorem WD.convU {s d' : TypeId} {x : Operand} {k : IntKind} {a : Int} (ho : (ix ops i).op = .convert s d' x) (ht : toU64 P s d' = true) (hx : ev f x = .int k a) (hr : 0 ≤ a ∧ a < 18446744073709551616)
  (hq : q.contains i = true) (hg : wants ops f (ix ops i) = true) {d : Nat} (hd : (ix ops i).dst = some d) (hn : N.ok d = true) (h : WD P N S ops q l (up f d (.int .u64 a)) w Q) : WD P N S ops q (i :: l) f w Q := by
 refine .pure (v := .int .u64 a) ?_ hq hg hd hn h
 unfold toU64 at ht
 split at ht
 ·rename_i k1 h1 h2
  unfold pureV
  rw [ho]
  simp only [pureOp, h1, h2, hx, wrapU hr]
  rfl
 ·cases ht
end
end Go.J
namespace Go.Proofs.YtccfiohagbneaaaGreatDoor
open Go Go.J Go.RowKit
def Dk.arm (D : Dk) (n : Int) : Dk := { D with armed := max (-1) n }
theorem arm_c {q mb lb : Nat} {D : Dk} (n : Int) {w0 : World} (hc : (dkC q mb lb D).holds w0) (hi : inB (dkC q mb lb D) w0) :
  Cal Tryz.prog 19 [.pointer (some ⟨q, 0, none⟩), .int .i64 n] w0 (fun v w' => v = .tuple #[] ∧ Mut w0 w' (dkC q mb lb D) (dkC q mb lb (D.arm n))) := by
 refine Cal.mkM hc hi Zk Tryz.func19 rfl rfl fun hS => ?_
 obtain ⟨h1, h2, h3, hS⟩ := St.dkOpen hS
 replace hS : St w0 (dkC q mb lb D).fp w0 [.box q 122 [.map (some mb), .map (some lb), .int .i64 D.steps, .int .i64 D.stamps, .int .i64 D.armed, .bool D.down], mapC mb (mmap encIt D.items), mapC lb (mmap encI D.limits)] _ := hS
 repeat' (first | (show WL _ _ _ _ _ _ _; first | refine WL.pure rfl rfl rfl rfl ?_ | refine WL.nil ?_ | refine WL.maxI rfl rfl rfl rfl rfl rfl ?_ | (refine WL.store hS rfl rfl rfl Sb rfl rfl rfl ?_; intro w hS)) | (show WC _ _ _ _ _ _; first | refine WC.seq ?_ | refine WC.region ?_ | refine WC.condT rfl Zd ?_) | refine seqQ_n ?_)
 exact fin0n rfl ⟨rfl, (St.dkClose (D.arm n) h1 h2 h3 hS).mutOf Zh⟩
def mixS (x s : Int) : Int := bits .xor .u64 x (shrI .u64 x s)
def mixE (loss n : Int) : Int := mixS (IntKind.u64.wrap (mixS (IntKind.u64.wrap (mixS (IntKind.u64.wrap (loss + IntKind.u64.wrap (n * 11400714819323198485))) 30 * 13787848793156543929)) 27 * 10723151780598845931)) 31
theorem mixE_in (loss n : Int) : 0 ≤ mixE loss n ∧ mixE loss n < 18446744073709551616 := by
 have h : ∀ y, 0 ≤ IntKind.u64.wrap y ∧ IntKind.u64.wrap y < 18446744073709551616 := fun y => by rw [IntKind.wrap_u64]; omega
 exact h _
theorem mix_c (loss n : Int) (w0 : World) : Cal Tryz.prog 77 [.int .u64 loss, .int .u64 n] w0 (fun v w' => Upd [] w0 w' ∧ v = .int .u64 (mixE loss n)) := by
 refine Cal.mk' Zk Tryz.func77 rfl rfl fun hS => ?_
 repeat' (first | (show WL _ _ _ _ _ _ _; first | refine WL.pure rfl rfl rfl rfl ?_ | refine WL.nil ?_ | (refine WL.shr rfl rfl rfl Zd rfl rfl rfl ?_)) | (show WC _ _ _ _ _ _; first | refine WC.seq ?_ | refine WC.region ?_ | refine WC.ret ?_) | refine seqQ_n ?_)
 exact fin1r rfl rfl ⟨hS.upd, rfl⟩
def loseK (loss n : Int) (x : It) : List UInt8 :=
 if x.anew then (if 0 < mixE (IntKind.u64.wrap loss) n % ((x.data.length : Int) + 2) then x.data.take (mixE (IntKind.u64.wrap loss) n % ((x.data.length : Int) + 2) - 1).toNat else x.kept)
 else x.data.take ((x.kept.length : Int) + mixE (IntKind.u64.wrap loss) n % ((x.data.length : Int) - x.kept.length + 1)).toNat
def lose1 (loss : Int) (s : Int × Dk) (p : List UInt8) : Int × Dk :=
 if (s.2.at p).loose then (s.1 + 1, s.2.set p { s.2.at p with data := loseK loss (s.1 + 1) (s.2.at p), kept := loseK loss (s.1 + 1) (s.2.at p), loose := false, anew := false }) else s
def Dk.keys (D : Dk) : List (List UInt8) := (D.items.map Prod.fst).mergeSort (fun x y => decide (x ≤ y))
def Dk.lose (D : Dk) (loss : Int) : Int × Dk := D.keys.foldl (lose1 loss) (0, D)
def Dk.restart (D : Dk) (loss : Int) : Dk := { (D.lose loss).2 with down := false, armed := -1 }
def Dk.Kp (D : Dk) (B : Nat) : Prop := ∀ x ∈ D.items, x.2.data.length ≤ B ∧ x.2.kept.length ≤ B ∧ (x.2.loose = true → x.2.anew = false → x.2.kept.length ≤ x.2.data.length)
theorem Dk.Kp.at_ {D : Dk} {B : Nat} (h : D.Kp B) (p : List UInt8) : (D.at p).data.length ≤ B ∧ (D.at p).kept.length ≤ B ∧ ((D.at p).loose = true → (D.at p).anew = false → (D.at p).kept.length ≤ (D.at p).data.length) := by
 unfold Dk.at
 cases e : mget D.items p with
 |none => exact ⟨Nat.zero_le _, Nat.zero_le _, fun h => by cases h⟩
 |some x => exact h _ (mget_mem e)
theorem loseK_len (loss n : Int) (x : It) {B : Nat} (h1 : x.data.length ≤ B) (h2 : x.kept.length ≤ B) : (loseK loss n x).length ≤ B := by
 unfold loseK
 repeat' split
 all_goals first | exact h2 | (rw [List.length_take]; omega)
theorem lose1_Kp {loss : Int} {s : Int × Dk} {p : List UInt8} {B : Nat} (h : s.2.Kp B) : (lose1 loss s p).2.Kp B := by
 unfold lose1
 split
 ·intro y hy
  rcases mem_mset hy with h1 | h1
  ·exact h y h1
  ·rw [h1]
   have := loseK_len loss (s.1 + 1) (s.2.at p) (h.at_ p).1 (h.at_ p).2.1
   exact ⟨this, this, fun hh => by cases hh⟩
 ·exact h
theorem restart_c {q mb lb : Nat} {D : Dk} (loss : Int) {w0 : World} (hc : (dkC q mb lb D).holds w0) (hi : inB (dkC q mb lb D) w0) (hk : D.Kp 1099511627776) (hn : D.items.length ≤ 1048576) (hkk : ∀ x ∈ D.items, x.1.length ≤ 1099511627) :
  Cal Tryz.prog 20 [.pointer (some ⟨q, 0, none⟩), .int .i64 loss] w0 (fun v w' => v = .int .i64 0 ∧ Mut w0 w' (dkC q mb lb D) (dkC q mb lb (D.restart loss))) := by
 refine Cal.mkM hc hi Zk Tryz.func20 rfl rfl fun hS => ?_
 have hkl : D.keys.length = D.items.length := by unfold Dk.keys; rw [(List.mergeSort_perm _ _).length_eq, List.length_map]
 have hml : (mmap encIt D.items).length = D.items.length := by unfold mmap; rw [List.length_map]
 have hmk : (mmap encIt D.items).map Prod.fst = D.items.map Prod.fst := by unfold mmap; rw [List.map_map]; rfl
 have hks : ((mmap encIt D.items).map Prod.fst).mergeSort (fun x y => decide (x ≤ y)) = D.keys := by rw [hmk]; rfl
 have hmkk : ∀ p ∈ mmap encIt D.items, p.1.length ≤ 1099511627776 := fun p hp => by
  obtain ⟨x, hx, rfl⟩ := List.mem_map.1 hp
  have := hkk x hx
  show x.1.length ≤ _
  omega
 repeat' (first | (show WL _ _ _ _ _ _ _; first | refine WL.pure rfl rfl rfl rfl ?_ | refine WL.nil ?_ | (refine WL.load hS rfl rfl (LdOk.dk (D := D) (by repeat (first | exact Zh | apply List.Mem.tail)) rfl) rfl rfl rfl ?_) | (refine WL.callG rfl rfl (mapsKeys_n mb _) rfl rfl rfl ?_; rintro v w ⟨x, rfl, hu, hnw⟩; replace hS := hS.new hu hnw; clear hu hnw) | (refine WL.callG rfl rfl (sorted_c (m := mmap encIt D.items) (hS.holds (.box x keysT [.map (some mb)]) (by repeat (first | exact Zh | apply List.Mem.tail))) (hS.holds (dkC q mb lb D) (by repeat (first | exact Zh | apply List.Mem.tail))).1.2.2.2.2.1 (by rw [hml]; exact hn) hmkk) rfl rfl rfl ?_; rintro v w ⟨hu, A, cap, rfl, hnw⟩; rw [hks, hml] at hnw; rw [hml]; replace hS := hS.new hu hnw; clear hu hnw)) | (show WC _ _ _ _ _ _; first | refine WC.seq ?_ | refine WC.region ?_ | refine WC.block ?_ | refine WC.skip ?_ | refine WC.condF rfl Zr ?_) | refine seqQ_n ?_)
 refine WC.loop (σ := Nat × Int × Dk) [0, 1, 18, 19] (fun (k, n, E) => [(5, .int .i64 n), (20, .int .i64 (k : Int))])
  (fun (k, n, E) w => k ≤ D.items.length ∧ 0 ≤ n ∧ n ≤ k ∧ E.Kp 1099511627776 ∧ (D.keys.drop k).foldl (lose1 loss) (n, E) = D.lose loss ∧ St w0 _ w [.own (.slice A D.items.length cap) 9 1 D.items.length (strs D.keys), .box x keysT [.map (some mb)], dkC q mb lb E] _)
  (fun (k, _) => D.items.length - k) (0, 0, D) ⟨Nat.zero_le _, Int.le_refl _, Int.le_refl _, hk, rfl, hS⟩ ⟨rfl, rfl, trivial⟩ ?_
 clear hS
 rintro ⟨k, n, E⟩ g w ⟨hk', h0, hnk, hKp, hfold, hS⟩
 show WC _ _ _ (lf _ [(5, .int .i64 n), (20, .int .i64 (k : Int))] _ _) _ _
 by_cases hlt : k < D.items.length
 ·have hlt2 : k < D.keys.length := Zo
  obtain ⟨ga, oa, rfl⟩ := hS.own_addr Zh Zo
  have hx : (strs D.keys)[k * 1]? = some (str D.keys[k]) := by rw [Nat.mul_one]; exact strs_at hlt2
  have hstep : D.keys.drop k = D.keys[k] :: D.keys.drop (k + 1) := List.drop_eq_getElem_cons hlt2
  rw [hstep, List.foldl_cons] at hfold
  clear hstep
  generalize D.keys[k] = p at *
  have hat := hKp.at_ p
  have hKp' := lose1_Kp (loss := loss) (s := (n, E)) (p := p) hKp
  have hlk := look_it E.items p
  have hE : E.at p = (mget E.items p).getD It0 := rfl
  rw [← hE] at hlk
  clear hE
  have hl1 : lose1 loss (n, E) p = if (E.at p).loose then (n + 1, E.set p { E.at p with data := loseK loss (n + 1) (E.at p), kept := loseK loss (n + 1) (E.at p), loose := false, anew := false }) else (n, E) := rfl
  rw [hl1] at hfold hKp'
  clear hl1
  generalize E.at p = it at *
  obtain ⟨dir, dat, kept, loose, anew, stamp⟩ := it
  dsimp only at *
  have hlk : lookV (encIt It0) (mmap encIt E.items) p false = .agg ⟨[.bool dir, str dat, str kept, .bool loose, .bool anew, .int .i64 stamp]⟩ := hlk
  have hpk := mixE_in (IntKind.u64.wrap loss) (n + 1)
  cases loose with
  |false =>
   rw [if_neg Zd] at hfold hKp'
   repeat' (first | (show WL _ _ _ _ _ _ _; first | refine WL.pure rfl rfl rfl rfl ?_ | refine WL.nil ?_ | refine WL.load hS rfl rfl (LdOk.box (by repeat (first | exact Zh | apply List.Mem.tail)) rfl) rfl rfl rfl ?_ | refine WL.add rfl rfl rfl Zo rfl rfl rfl ?_ | (refine WL.load hS rfl rfl (LdOk.ownAt (by repeat (first | exact Zh | apply List.Mem.tail)) rfl ⟨_, rfl⟩ hx rfl) rfl rfl rfl ?_) | (refine WL.load hS rfl rfl (LdOk.dk (D := E) (by repeat (first | exact Zh | apply List.Mem.tail)) rfl) rfl rfl rfl ?_) | (refine WL.mget hS rfl rfl rfl rfl (MapOk.dk (D := E) (by repeat (first | exact Zh | apply List.Mem.tail))) hlk rfl rfl rfl ?_) | (refine WL.store hS rfl rfl rfl Sb rfl rfl rfl ?_; intro w hS) | (refine WL.alloc hS rfl rfl rfl rfl rfl rfl ?_; intro w b hS) | refine WL.index rfl rfl rfl rfl Zw rfl rfl rfl rfl ?_) | (show WC _ _ _ _ _ _; first | refine WC.seq ?_ | refine WC.region ?_ | refine WC.block ?_ | refine WC.skip ?_ | refine WC.exit ?_ | refine WC.condT rfl Zd ?_ | refine WC.condT rfl (decide_eq_true Zw) ?_) | refine seqQ_n ?_ | refine seqQ_x ?_ | refine blkQ_hit rfl ?_)
   exact rndQ_n (k + 1, n, E) ⟨Zo, h0, by show n ≤ ((k + 1 : Nat) : Int); omega, hKp, hfold, hS.drop⟩ (by show D.items.length - (k + 1) < D.items.length - k; omega) ⟨rfl, vint Zo, trivial⟩ ⟨rfl, rfl, rfl, rfl, trivial⟩
  |true =>
   rw [if_pos rfl] at hfold hKp'
   cases anew with
   |true =>
    have he0 := Int.emod_nonneg (mixE (IntKind.u64.wrap loss) (n + 1)) (show ((dat.length : Int) + 2) ≠ 0 by omega)
    have he1 := Int.emod_lt_of_pos (mixE (IntKind.u64.wrap loss) (n + 1)) (show (0 : Int) < (dat.length : Int) + 2 by omega)
    obtain ⟨mm, hmm⟩ : ∃ mm : Nat, mixE (IntKind.u64.wrap loss) (n + 1) % ((dat.length : Int) + 2) = (mm : Int) := ⟨_, (Int.toNat_of_nonneg he0).symm⟩
    rw [hmm] at he0 he1
    have hK : loseK loss (n + 1) ⟨dir, dat, kept, true, true, stamp⟩ = if 0 < mm then dat.take (mm - 1) else kept := by
     unfold loseK
     rw [if_pos rfl]
     dsimp only
     rw [hmm]
     by_cases hz : 0 < mm
     ·rw [if_pos Zo, if_pos hz]; congr 1; omega
     ·rw [if_neg Zo, if_neg hz]
    rw [hK] at hfold hKp'
    clear hK
    by_cases hz : 0 < mm
    ·have hm1 : (mm : Int) - 1 = ((mm - 1 : Nat) : Int) := Zo
     rw [if_pos hz] at hfold hKp'
     repeat' (first | (show WL _ _ _ _ _ _ _; first | (refine WL.convU rfl rfl rfl Zo rfl rfl rfl ?_) | (refine WL.subU rfl rfl rfl Zo rfl rfl rfl ?_; rw [hm1]) | refine WL.pure rfl rfl rfl rfl ?_ | refine WL.nil ?_ | refine WL.load hS rfl rfl (LdOk.box (by repeat (first | exact Zh | apply List.Mem.tail)) rfl) rfl rfl rfl ?_ | refine WL.add rfl rfl rfl Zo rfl rfl rfl ?_ | (refine WL.load hS rfl rfl (LdOk.ownAt (by repeat (first | exact Zh | apply List.Mem.tail)) rfl ⟨_, rfl⟩ hx rfl) rfl rfl rfl ?_) | (refine WL.load hS rfl rfl (LdOk.dk (D := E) (by repeat (first | exact Zh | apply List.Mem.tail)) rfl) rfl rfl rfl ?_) | (refine WL.mget hS rfl rfl rfl rfl (MapOk.dk (D := E) (by repeat (first | exact Zh | apply List.Mem.tail))) hlk rfl rfl rfl ?_) | (refine WL.calls hS rfl rfl (mix_c (IntKind.u64.wrap loss) (n + 1) _) rfl rfl rfl ?_; rintro v w rfl hS) | (refine WL.remU rfl rfl rfl Zo Zo rfl rfl rfl ?_; rw [hmm]) | (refine WL.callL (D := [dkC q mb lb E]) hS Pu rfl rfl (fun hI => dset_c p ⟨dir, dat.take (mm - 1), dat.take (mm - 1), false, false, stamp⟩ hI.head hI.headB) rfl rfl rfl ?_; rintro v w ⟨rfl, hm⟩ hS; replace hS := hS _ (.of1 hm); clear hm) | refine WL.highS rfl rfl rfl rfl Zo rfl rfl rfl ?_ | (refine WL.store hS rfl rfl rfl Sb rfl rfl rfl ?_; intro w hS) | (refine WL.alloc hS rfl rfl rfl rfl rfl rfl ?_; intro w b hS) | refine WL.index rfl rfl rfl rfl Zw rfl rfl rfl rfl ?_) | (show WC _ _ _ _ _ _; first | refine WC.seq ?_ | refine WC.region ?_ | refine WC.block ?_ | refine WC.skip ?_ | refine WC.condT rfl Zr ?_ | refine WC.condF rfl Zd ?_ | refine WC.condT rfl (decide_eq_true Zw) ?_) | refine seqQ_n ?_ | refine blkQ_n ?_)
     exact rndQ_n (k + 1, n + 1, E.set p ⟨dir, dat.take (mm - 1), dat.take (mm - 1), false, false, stamp⟩) ⟨Zo, by show 0 ≤ n + 1; omega, by show n + 1 ≤ ((k + 1 : Nat) : Int); omega, hKp', hfold, hS.droplast2 Pu⟩ (by show D.items.length - (k + 1) < D.items.length - k; omega) ⟨rfl, vint Zo, trivial⟩ ⟨rfl, rfl, rfl, rfl, trivial⟩
    ·rw [if_neg hz] at hfold hKp'
     repeat' (first | (show WL _ _ _ _ _ _ _; first | (refine WL.convU rfl rfl rfl Zo rfl rfl rfl ?_) | refine WL.pure rfl rfl rfl rfl ?_ | refine WL.nil ?_ | refine WL.load hS rfl rfl (LdOk.box (by repeat (first | exact Zh | apply List.Mem.tail)) rfl) rfl rfl rfl ?_ | refine WL.add rfl rfl rfl Zo rfl rfl rfl ?_ | (refine WL.load hS rfl rfl (LdOk.ownAt (by repeat (first | exact Zh | apply List.Mem.tail)) rfl ⟨_, rfl⟩ hx rfl) rfl rfl rfl ?_) | (refine WL.load hS rfl rfl (LdOk.dk (D := E) (by repeat (first | exact Zh | apply List.Mem.tail)) rfl) rfl rfl rfl ?_) | (refine WL.mget hS rfl rfl rfl rfl (MapOk.dk (D := E) (by repeat (first | exact Zh | apply List.Mem.tail))) hlk rfl rfl rfl ?_) | (refine WL.calls hS rfl rfl (mix_c (IntKind.u64.wrap loss) (n + 1) _) rfl rfl rfl ?_; rintro v w rfl hS) | (refine WL.remU rfl rfl rfl Zo Zo rfl rfl rfl ?_; rw [hmm]) | (refine WL.callL (D := [dkC q mb lb E]) hS Pu rfl rfl (fun hI => dset_c p ⟨dir, kept, kept, false, false, stamp⟩ hI.head hI.headB) rfl rfl rfl ?_; rintro v w ⟨rfl, hm⟩ hS; replace hS := hS _ (.of1 hm); clear hm) | (refine WL.store hS rfl rfl rfl Sb rfl rfl rfl ?_; intro w hS) | (refine WL.alloc hS rfl rfl rfl rfl rfl rfl ?_; intro w b hS) | refine WL.index rfl rfl rfl rfl Zw rfl rfl rfl rfl ?_) | (show WC _ _ _ _ _ _; first | refine WC.seq ?_ | refine WC.region ?_ | refine WC.block ?_ | refine WC.skip ?_ | refine WC.condT rfl Zr ?_ | refine WC.condF rfl Zd ?_ | refine WC.condT rfl (decide_eq_true Zw) ?_ | refine WC.condF rfl (decide_eq_false Zw) ?_) | refine seqQ_n ?_ | refine blkQ_n ?_)
     exact rndQ_n (k + 1, n + 1, E.set p ⟨dir, kept, kept, false, false, stamp⟩) ⟨Zo, by show 0 ≤ n + 1; omega, by show n + 1 ≤ ((k + 1 : Nat) : Int); omega, hKp', hfold, hS.droplast2 Pu⟩ (by show D.items.length - (k + 1) < D.items.length - k; omega) ⟨rfl, vint Zo, trivial⟩ ⟨rfl, rfl, rfl, rfl, trivial⟩
   |false =>
    have hkd := hat.2.2 rfl rfl
    have he0 := Int.emod_nonneg (mixE (IntKind.u64.wrap loss) (n + 1)) (show ((dat.length : Int) - kept.length + 1) ≠ 0 by omega)
    have he1 := Int.emod_lt_of_pos (mixE (IntKind.u64.wrap loss) (n + 1)) (show (0 : Int) < (dat.length : Int) - kept.length + 1 by omega)
    obtain ⟨mm, hmm⟩ : ∃ mm : Nat, mixE (IntKind.u64.wrap loss) (n + 1) % ((dat.length : Int) - kept.length + 1) = (mm : Int) := ⟨_, (Int.toNat_of_nonneg he0).symm⟩
    rw [hmm] at he0 he1
    have hK : loseK loss (n + 1) ⟨dir, dat, kept, true, false, stamp⟩ = dat.take (kept.length + mm) := by
     unfold loseK
     rw [if_neg (show ¬ false = true by decide)]
     dsimp only
     rw [hmm]
     congr 1
    rw [hK] at hfold hKp'
    clear hK
    repeat' (first | (show WL _ _ _ _ _ _ _; first | (refine WL.convU rfl rfl rfl Zo rfl rfl rfl ?_) | refine WL.pure rfl rfl rfl rfl ?_ | refine WL.nil ?_ | refine WL.load hS rfl rfl (LdOk.box (by repeat (first | exact Zh | apply List.Mem.tail)) rfl) rfl rfl rfl ?_ | refine WL.add rfl rfl rfl Zo rfl rfl rfl ?_ | (refine WL.load hS rfl rfl (LdOk.ownAt (by repeat (first | exact Zh | apply List.Mem.tail)) rfl ⟨_, rfl⟩ hx rfl) rfl rfl rfl ?_) | (refine WL.load hS rfl rfl (LdOk.dk (D := E) (by repeat (first | exact Zh | apply List.Mem.tail)) rfl) rfl rfl rfl ?_) | (refine WL.mget hS rfl rfl rfl rfl (MapOk.dk (D := E) (by repeat (first | exact Zh | apply List.Mem.tail))) hlk rfl rfl rfl ?_) | (refine WL.calls hS rfl rfl (mix_c (IntKind.u64.wrap loss) (n + 1) _) rfl rfl rfl ?_; rintro v w rfl hS) | (refine WL.callL (D := [dkC q mb lb E]) hS Pu rfl rfl (fun hI => dset_c p ⟨dir, dat.take (kept.length + mm), dat.take (kept.length + mm), false, false, stamp⟩ hI.head hI.headB) rfl rfl rfl ?_; rintro v w ⟨rfl, hm⟩ hS; replace hS := hS _ (.of1 hm); clear hm) | (refine WL.store hS rfl rfl rfl Sb rfl rfl rfl ?_; intro w hS) | (refine WL.alloc hS rfl rfl rfl rfl rfl rfl ?_; intro w b hS) | refine WL.index rfl rfl rfl rfl Zw rfl rfl rfl rfl ?_) | (show WC _ _ _ _ _ _; first | refine WC.seq ?_ | refine WC.region ?_ | refine WC.block ?_ | refine WC.skip ?_ | (show WC _ _ (Code.region _ (List.toArray [_, _, _, _, _, _, _, _, _, _, _, _, _, _, _, _, _, _, _, _, _]) true) _ _ _; refine WC.drawV hS [0,1,2,3,4,5,6,7,8,9,10,11,12,13,14,15,16,17,18,19] [0,1,2,3,4,5,6,7,8,9,10,11,12,13,14,15,16,17,18,19] 20 [] Zk Zk ?_; clear hS; intro w hS hM) | refine WC.condF rfl Zr ?_ | refine WC.condF rfl Zd ?_ | refine WC.condT rfl (decide_eq_true Zw) ?_) | (show WD _ _ _ _ _ _ _ _ _; first | (refine WD.convU rfl rfl rfl Zo rfl rfl rfl rfl ?_) | refine WD.pure rfl rfl rfl rfl rfl ?_ | refine WD.nil ?_ | refine WD.load rfl rfl (LdOk.box (by repeat (first | exact Zh | apply List.Mem.tail)) rfl) rfl rfl rfl rfl ?_ | refine WD.add rfl rfl rfl Zo rfl rfl rfl rfl ?_ | refine WD.sub rfl rfl rfl Zo rfl rfl rfl rfl ?_ | (refine WD.remU rfl rfl rfl Zo Zo rfl rfl rfl rfl ?_; rw [hmm]) | (refine WD.highS rfl rfl rfl rfl Zo rfl rfl rfl rfl ?_) | (refine WD.pivStore hS rfl rfl rfl Sb rfl rfl rfl rfl ?_; clear hS; intro w hS hM) | refine WD.conv64 rfl rfl rfl Zo rfl rfl rfl rfl ?_) | refine seqQ_n ?_ | refine blkQ_n ?_)
    exact rndQ_n (k + 1, n + 1, E.set p ⟨dir, dat.take (kept.length + mm), dat.take (kept.length + mm), false, false, stamp⟩) ⟨Zo, by show 0 ≤ n + 1; omega, by show n + 1 ≤ ((k + 1 : Nat) : Int); omega, hKp', hfold, hS.droplast2 Pu⟩ (by show D.items.length - (k + 1) < D.items.length - k; omega) ⟨rfl, vint Zo, trivial⟩ ⟨rfl, rfl, rfl, rfl, trivial⟩
 ·have hke : k = D.items.length := Zo
  subst hke
  rw [← hkl, List.drop_length, List.foldl_nil] at hfold
  have hS := hS.droplast2 (D := [dkC q mb lb E]) Pu
  have hR : D.restart loss = { E with down := false, armed := -1 } := by unfold Dk.restart; rw [← hfold]
  rw [hR]
  obtain ⟨h1, h2, h3, hS⟩ := St.dkOpen hS
  replace hS : St w0 _ w [.box q 122 [.map (some mb), .map (some lb), .int .i64 E.steps, .int .i64 E.stamps, .int .i64 E.armed, .bool E.down], mapC mb (mmap encIt E.items), mapC lb (mmap encI E.limits)] _ := hS
  repeat' (first | (show WL _ _ _ _ _ _ _; first | refine WL.pure rfl rfl rfl rfl ?_ | refine WL.nil ?_ | (refine WL.store hS rfl rfl rfl Sb rfl rfl rfl ?_; intro w hS)) | (show WC _ _ _ _ _ _; first | refine WC.seq ?_ | refine WC.region ?_ | refine WC.exit ?_ | refine WC.ret ?_ | refine WC.condF rfl (decide_eq_false Zw) ?_) | refine seqQ_n ?_ | refine seqQ_x ?_ | refine blkQ_hit rfl ?_ | refine rndQ_x ?_)
  exact fin1r rfl rfl ⟨rfl, (St.dkClose { E with down := false, armed := -1 } h1 h2 h3 hS).mutOf Zh⟩
open Go Go.J Go.RowKit
abbrev CB : Nat := 1000000000
structure SysC (D : Dk) : Prop where
 lim : D.limits = []
 nd : (D.items.map Prod.fst).Nodup
 dir : (D.at sysP).dir = true
 has : D.has sysP = true
 files : ∀ p, sysF p → (D.at p).dir = false
 kp : D.Kp CB
 firm : (D.at sysP).loose = false
structure SysU (D : Dk) : Prop where
 c : SysC D
 up : D.down = false
def KpI (x : It) : Prop := x.data.length ≤ CB ∧ x.kept.length ≤ CB ∧ (x.loose = true → x.anew = false → x.kept.length ≤ x.data.length)
def Halt (D D' : Dk) : Prop := SysC D' ∧ ∀ y, D'.get y = D.get y
section
variable {D : Dk} {bs : Option (List Chg)} {ls : List (List Chg)}
theorem SysC.step (h : SysC D) : SysC D.step := by
 have e := Dk.step_items D
 refine ⟨by rw [Dk.step_limits]; exact h.lim, by rw [e]; exact h.nd, ?_, ?_, fun p hp => ?_, fun x hx => h.kp x (by rwa [e] at hx), by rw [Dk.at_get, Dk.get_step]; exact h.firm⟩
 ·rw [Dk.at_get, Dk.get_step]; exact h.dir
 ·rw [Dk.has_get, Dk.get_step]; exact h.has
 ·rw [Dk.at_get, Dk.get_step]; exact h.files p hp
theorem SysC.halt (h : SysC D) : Halt D D.step := ⟨h.step, fun y => Dk.get_step D y⟩
theorem SysU.step (h : SysU D) (ha : ¬ D.armed = 0) : SysU D.step := ⟨h.c.step, by unfold Dk.step; rw [if_neg ha]; exact h.up⟩
theorem step_stamps (D : Dk) : D.step.stamps = D.stamps := by unfold Dk.step; split <;> rfl
theorem SysC.put (h : SysC D) {p : List UInt8} {x : It} (hp : sysF p) (hx : x.dir = false) (hk : KpI x) : SysC { D with items := mset D.items p x } := by
 obtain ⟨_, _, _, hne⟩ := sysF_ok hp
 refine ⟨h.lim, mset_nodup h.nd _ _, ?_, ?_, fun y hy => ?_, fun y hy => ?_, by rw [Dk.at_get, Dk.get_put, if_neg (Ne.symm hne)]; exact h.firm⟩
 ·rw [Dk.at_get, Dk.get_put, if_neg (Ne.symm hne)]; exact h.dir
 ·rw [Dk.has_get, Dk.get_put, if_neg (Ne.symm hne)]; exact h.has
 ·rw [Dk.at_get, Dk.get_put]
  by_cases e : y = p
  ·rw [if_pos e]; exact hx
  ·rw [if_neg e]; exact h.files y hy
 ·rcases mset_mem hy with h1 | h1
  ·exact h.kp y h1
  ·rw [h1]; exact hk
theorem SysC.set (h : SysC D) {p : List UInt8} {x : It} (hp : sysF p) (hx : x.dir = false) (hk : KpI x) : SysC (D.set p x) := by
 have h1 := h.put (x := { x with stamp := IntKind.i64.wrap (D.stamps + 1) }) hp hx hk
 exact ⟨h1.lim, h1.nd, h1.dir, h1.has, h1.files, h1.kp, h1.firm⟩
theorem SysC.del (h : SysC D) {p : List UInt8} (hp : sysF p) : SysC (D.del p) := by
 obtain ⟨_, _, _, hne⟩ := sysF_ok hp
 refine ⟨h.lim, mdel_nodup h.nd _, ?_, ?_, fun y hy => ?_, fun y hy => h.kp y ((mdel_sub _ _).mem hy), by rw [Dk.at_get, Dk.get_del _ h.nd, if_neg (Ne.symm hne)]; exact h.firm⟩
 ·rw [Dk.at_get, Dk.get_del _ h.nd, if_neg (Ne.symm hne)]; exact h.dir
 ·rw [Dk.has_get, Dk.get_del _ h.nd, if_neg (Ne.symm hne)]; exact h.has
 ·rw [Dk.at_get, Dk.get_del _ h.nd]
  by_cases e : y = p
  ·rw [if_pos e]; rfl
  ·rw [if_neg e]; exact h.files y hy
theorem SysU.may (h : SysU D) {p : List UInt8} (hp : sysF p) : D.may p 1 = 0 := by
 obtain ⟨h1, h2, _, _⟩ := sysF_ok hp
 unfold Dk.may
 rw [h.up, if_neg Zd, if_neg (fun hh => hh h1), if_neg (by rw [h2]; decide)]
theorem SysC.under (h : SysC D) {p : List UInt8} (hp : sysF p) : D.under p = true := by
 obtain ⟨_, h2, h3, _⟩ := sysF_ok hp
 unfold Dk.under
 rw [if_neg (by rw [h2]; decide), h3, h.dir]
theorem SysU.file (h : SysU D) {p : List UInt8} (hp : sysF p) (hh : D.has p = true) : D.file p = 0 := by
 unfold Dk.file
 rw [h.may hp, if_neg (fun hh => hh rfl), if_pos hh, h.c.files p hp, if_neg Zd]
theorem stepE0 {D : Dk} (h : D.armed = 0) : D.stepE = 14 := if_pos h
theorem stepE1 {D : Dk} (h : ¬ D.armed = 0) : D.stepE = 0 := if_neg h
theorem SysU.append (h : SysU D) {p r : List UInt8} (hp : sysF p) (hh : D.has p = true) (hz : (D.at p).data.length + r.length ≤ CB) (hkd : (D.at p).kept.length ≤ (D.at p).data.length) :
  (D.append p r).1 = 14 ∧ Halt D (D.append p r).2 ∨ (D.append p r).1 = 0 ∧ SysU (D.append p r).2 ∧ ∀ y, (D.append p r).2.get y = if y = p then some { D.at p with data := (D.at p).data ++ r, loose := true, stamp := IntKind.i64.wrap (D.stamps + 1) } else D.get y := by
 by_cases ha : D.armed = 0
 ·have e : D.append p r = (14, D.step) := by
   unfold Dk.append
   rw [h.file hp hh, if_neg (fun hh => hh rfl), stepE0 ha, if_pos Zd]
  rw [e]
  exact .inl ⟨rfl, h.c.halt⟩
 ·have e : D.append p r = (0, D.step.set p { D.at p with data := (D.at p).data ++ r, loose := true }) := by
   unfold Dk.append
   rw [h.file hp hh, if_neg (fun hh => hh rfl), stepE1 ha, if_neg (fun hh => hh rfl), Dk.step_at]
  rw [e]
  have hk := h.c.kp.at_ p
  refine .inr ⟨rfl, ⟨h.c.step.set hp (h.c.files p hp) ⟨?_, hk.2.1, fun _ ha => ?_⟩, (h.step ha).up⟩, fun y => ?_⟩
  ·show ((D.at p).data ++ r).length ≤ CB
   rw [List.length_append]; exact hz
  ·show (D.at p).kept.length ≤ ((D.at p).data ++ r).length
   rw [List.length_append]
   omega
  ·rw [Dk.get_set, Dk.get_step, step_stamps]
theorem SysU.sync (h : SysU D) {p : List UInt8} (hp : sysF p) (hh : D.has p = true) :
  (D.sync p).1 = 14 ∧ Halt D (D.sync p).2 ∨ (D.sync p).1 = 0 ∧ SysU (D.sync p).2 ∧ ∀ y, (D.sync p).2.get y = if y = p then some { D.at p with kept := (D.at p).data, loose := false, anew := false } else D.get y := by
 by_cases ha : D.armed = 0
 ·have e : D.sync p = (14, D.step) := by
   unfold Dk.sync
   rw [h.file hp hh, if_neg (fun hh => hh rfl), stepE0 ha, if_pos Zd]
  rw [e]
  exact .inl ⟨rfl, h.c.halt⟩
 ·have e : D.sync p = (0, { D.step with items := mset D.step.items p { D.at p with kept := (D.at p).data, loose := false, anew := false } }) := by
   unfold Dk.sync
   rw [h.file hp hh, if_neg (fun hh => hh rfl), stepE1 ha, if_neg (fun hh => hh rfl), Dk.step_at]
  rw [e]
  have hk := h.c.kp.at_ p
  refine .inr ⟨rfl, ⟨h.c.step.put hp (h.c.files p hp) ⟨hk.1, hk.1, fun hh => by cases hh⟩, (h.step ha).up⟩, fun y => ?_⟩
  rw [Dk.get_put, Dk.get_step]
theorem SysU.write (h : SysU D) {p r : List UInt8} (hp : sysF p) (hz : r.length ≤ CB) :
  (D.write p r).1 = 14 ∧ Halt D (D.write p r).2 ∨ (D.write p r).1 = 0 ∧ SysU (D.write p r).2 ∧ ∀ y, (D.write p r).2.get y = if y = p then some { D.at p with data := r, loose := true, anew := true, stamp := IntKind.i64.wrap (D.stamps + 1) } else D.get y := by
 by_cases ha : D.armed = 0
 ·have e : D.write p r = (14, D.step) := by
   unfold Dk.write
   rw [h.may hp, if_neg (fun hh => hh rfl), h.c.under hp, if_neg Zd, h.c.files p hp, if_neg Zd, stepE0 ha, if_pos Zd]
  rw [e]
  exact .inl ⟨rfl, h.c.halt⟩
 ·have e : D.write p r = (0, D.step.set p { D.at p with data := r, loose := true, anew := true }) := by
   unfold Dk.write
   rw [h.may hp, if_neg (fun hh => hh rfl), h.c.under hp, if_neg Zd, h.c.files p hp, if_neg Zd, stepE1 ha, if_neg (fun hh => hh rfl)]
  rw [e]
  have hk := h.c.kp.at_ p
  refine .inr ⟨rfl, ⟨h.c.step.set hp (h.c.files p hp) ⟨hz, hk.2.1, fun _ hh => by cases hh⟩, (h.step ha).up⟩, fun y => ?_⟩
  rw [Dk.get_set, Dk.get_step, step_stamps]
theorem SysU.rename (h : SysU D) {p r : List UInt8} (hp : sysF p) (hr : sysF r) (hh : D.has p = true) :
  (D.rename p r).1 = 14 ∧ Halt D (D.rename p r).2 ∨ (D.rename p r).1 = 0 ∧ SysU (D.rename p r).2 ∧ ∀ y, (D.rename p r).2.get y = if y = r then some { D.at p with stamp := IntKind.i64.wrap (D.stamps + 1) } else if y = p then none else D.get y := by
 by_cases ha : D.armed = 0
 ·have e : D.rename p r = (14, D.step) := by
   unfold Dk.rename
   rw [h.may hp, if_neg (fun hh => hh rfl), h.may hr, if_neg (fun hh => hh rfl), hh, h.c.under hr, if_neg (by simp), h.c.files p hp, h.c.files r hr, if_neg (by simp), stepE0 ha, if_pos Zd]
  rw [e]
  exact .inl ⟨rfl, h.c.halt⟩
 ·have e : D.rename p r = (0, (D.step.del p).set r (D.at p)) := by
   unfold Dk.rename
   rw [h.may hp, if_neg (fun hh => hh rfl), h.may hr, if_neg (fun hh => hh rfl), hh, h.c.under hr, if_neg (by simp), h.c.files p hp, h.c.files r hr, if_neg (by simp), stepE1 ha, if_neg (fun hh => hh rfl)]
  rw [e]
  refine .inr ⟨rfl, ⟨(h.c.step.del hp).set hr (h.c.files p hp) (h.c.kp.at_ p), (h.step ha).up⟩, fun y => ?_⟩
  rw [Dk.get_set, Dk.get_del _ h.c.step.nd, Dk.get_step]
  have : (D.step.del p).stamps = D.stamps := step_stamps D
  rw [this]
theorem SysU.fill (h : SysU D) {p s : List UInt8} (hp : sysF p) (ht : sysF (p ++ [95, 116])) (hne : p ++ [95, 116] ≠ p) (hz : s.length ≤ CB) :
  (D.fill p s).1 = 14 ∧ SysC (D.fill p s).2 ∧ (∀ y, y ≠ p ++ [95, 116] → (D.fill p s).2.get y = D.get y) ∨
  (D.fill p s).1 = 0 ∧ SysU (D.fill p s).2 ∧ Kept (D.fill p s).2 p s ∧ ∀ y, y ≠ p → y ≠ p ++ [95, 116] → (D.fill p s).2.get y = D.get y := by
 rcases h.write (r := s) ht hz with ⟨w1, w2, w3⟩ | ⟨w1, w2, w3⟩
 ·have e : D.fill p s = D.write (p ++ [95, 116]) s := by unfold Dk.fill; rw [if_pos (by rw [w1]; decide)]
  rw [e]
  exact .inl ⟨w1, w2, fun y _ => w3 y⟩
 have g1 := w3 (p ++ [95, 116])
 rw [if_pos rfl] at g1
 rcases w2.sync ht (has_of_get g1) with ⟨s1, s2, s3⟩ | ⟨s1, s2, s3⟩
 ·have e : D.fill p s = (D.write (p ++ [95, 116]) s).2.sync (p ++ [95, 116]) := by unfold Dk.fill; rw [if_neg (fun hh => hh w1), if_pos (by rw [s1]; decide)]
  rw [e]
  exact .inl ⟨s1, s2, fun y hy => by rw [s3, w3, if_neg hy]⟩
 have g2 := s3 (p ++ [95, 116])
 rw [if_pos rfl, at_of_get g1] at g2
 have e : D.fill p s = ((D.write (p ++ [95, 116]) s).2.sync (p ++ [95, 116])).2.rename (p ++ [95, 116]) p := by
  unfold Dk.fill
  rw [if_neg (fun hh => hh w1), if_neg (fun hh => hh s1)]
 rw [e]
 rcases s2.rename ht hp (has_of_get g2) with ⟨r1, r2, r3⟩ | ⟨r1, r2, r3⟩
 ·exact .inl ⟨r1, r2, fun y hy => by rw [r3, s3, if_neg hy, w3, if_neg hy]⟩
 ·refine .inr ⟨r1, r2, ⟨_, by rw [r3, if_pos rfl], ?_⟩, fun y h1 h2 => by rw [r3, if_neg h1, if_neg h2, s3, if_neg h2, w3, if_neg h2]⟩
  rw [at_of_get g2]
  exact ⟨h.c.files _ ht, rfl, rfl, rfl, rfl⟩
def LogTorn (D : Dk) (s r : List UInt8) : Prop := ∃ x, D.get sysL = some x ∧ x.dir = false ∧ x.data = s ++ r ∧ x.kept = s ∧ x.loose = true ∧ x.anew = false
theorem Kept.halt {D D' : Dk} {p s : List UInt8} (h : Kept D p s) (hg : D'.get p = D.get p) : Kept D' p s := by obtain ⟨x, h1, h2⟩ := h; exact ⟨x, hg.trans h1, h2⟩
theorem Kept.lens {p s : List UInt8} (h : Kept D p s) : (D.at p).data.length = s.length ∧ (D.at p).kept.length = s.length := by
 obtain ⟨x, e1, e2, e3, e4, _⟩ := h
 rw [at_of_get e1, e3, e4]
 exact ⟨rfl, rfl⟩
theorem SysU.walAdd (h : SysU D) {s : List UInt8} (hk : Kept D sysL s) (recs : List (List UInt8)) (dmg : Bool) (r : List UInt8) (hz : s.length + (packE r).length ≤ CB) :
  ∃ e G' D', walAdd ⟨sysL, recs, dmg⟩ D r = (e, G', D') ∧
   (e = 14 ∧ Halt D D' ∨ e = 14 ∧ SysC D' ∧ LogTorn D' s (packE r) ∧ (∀ y, y ≠ sysL → D'.get y = D.get y) ∨
   e = 0 ∧ G' = ⟨sysL, recs ++ [r], dmg⟩ ∧ SysU D' ∧ Kept D' sysL (s ++ packE r) ∧ ∀ y, y ≠ sysL → D'.get y = D.get y) := by
 obtain ⟨l1, l2⟩ := hk.lens
 obtain ⟨d1, d2⟩ := hk.data
 unfold Go.Proofs.YtccfiohagbneaaaGreatDoor.walAdd
 dsimp only
 rcases h.append (r := packE r) sysF_L hk.has Zo Zo with ⟨a1, a2⟩ | ⟨a1, a2, a3⟩
 ·rw [if_pos (by rw [a1]; decide)]
  exact ⟨_, _, _, rfl, .inl ⟨a1, a2⟩⟩
 ·rw [if_neg (fun hh => hh a1)]
  have g1 := a3 sysL
  rw [if_pos rfl] at g1
  rcases a2.sync sysF_L (has_of_get g1) with ⟨s1, s2, s3⟩ | ⟨s1, s2, s3⟩
  ·rw [if_pos (by rw [s1]; decide)]
   refine ⟨_, _, _, rfl, .inr (.inl ⟨s1, s2, ⟨_, (s3 sysL).trans g1, d2, by rw [← d1], ?_, rfl, ?_⟩, fun y hy => by rw [s3, a3, if_neg hy]⟩)⟩
   ·obtain ⟨x, e1, e2, e3, e4, _⟩ := hk
    show (D.at sysL).kept = s
    rw [at_of_get e1, e4]
   ·obtain ⟨x, e1, e2, e3, e4, e5, e6⟩ := hk
    show (D.at sysL).anew = false
    rw [at_of_get e1, e6]
  ·rw [if_neg (fun hh => hh s1)]
   have g2 := s3 sysL
   rw [if_pos rfl, at_of_get g1] at g2
   exact ⟨_, _, _, rfl, .inr (.inr ⟨rfl, rfl, s2, ⟨_, g2, d2, by rw [← d1], by rw [← d1], rfl, rfl⟩, fun y hy => by rw [s3, if_neg hy, a3, if_neg hy]⟩)⟩
theorem SysU.pack (h : SysU D) {s : List UInt8} (hk : Kept D sysL s) {bs : Option (List Chg)} (hb : baseIs D bs) (rows : Rws) (recs : List (List UInt8)) (dmg : Bool) (hz : (packE (recordE (packL rows))).length ≤ CB) :
  ∃ e T' D', tabPack ⟨sysP, rows, ⟨sysL, recs, dmg⟩⟩ D = (e, T', D') ∧
   (e = 14 ∧ SysC D' ∧ Kept D' sysL s ∧ (baseIs D' bs ∨ baseIs D' (some (packL rows))) ∨
   e = 0 ∧ T' = ⟨sysP, rows, ⟨sysL, [], dmg⟩⟩ ∧ SysU D' ∧ Kept D' sysL [] ∧ baseIs D' (some (packL rows))) := by
 unfold tabPack
 dsimp only
 rw [show baseP sysP = sysB from rfl]
 rcases h.fill (p := sysB) (s := packE (recordE (packL rows))) sysF_B sysF_BT Zd hz with ⟨f1, f2, f3⟩ | ⟨f1, f2, f3, f4⟩
 ·rw [if_pos (by rw [f1]; decide)]
  exact ⟨_, _, _, rfl, .inl ⟨f1, f2, hk.halt (f3 _ Zd), .inl (baseIs_same (f3 _ Zd) hb)⟩⟩
 ·rw [if_neg (fun hh => hh f1)]
  have hk2 := hk.halt (f4 sysL Zd Zd)
  rcases f2.fill (p := sysL) (s := []) sysF_L sysF_LT Zd (Nat.zero_le _) with ⟨g1, g2, g3⟩ | ⟨g1, g2, g3, g4⟩
  ·exact ⟨_, _, _, rfl, .inl ⟨g1, g2, hk2.halt (g3 _ Zd), .inr (baseIs_same (bs := some (packL rows)) (g3 _ Zd) f3)⟩⟩
  ·exact ⟨_, _, _, rfl, .inr ⟨g1, by rw [g1]; rfl, g2, g3, baseIs_same (bs := some (packL rows)) (g4 _ Zd Zd) f3⟩⟩
structure TabC (D : Dk) (bs : Option (List Chg)) (ls : List (List Chg)) : Prop where
 c : SysC D
 log : Kept D sysL (frames (ls.map recordE))
 base : baseIs D bs
def Crash (D' : Dk) (bs : Option (List Chg)) (ls : List (List Chg)) (rows : Rws) (ops : List Chg) : Prop :=
 TabC D' bs ls ∨ (SysC D' ∧ LogTorn D' (frames (ls.map recordE)) (packE (recordE ops)) ∧ baseIs D' bs) ∨ TabC D' bs (ls ++ [ops]) ∨ TabC D' (some (packL (applyE rows ops))) (ls ++ [ops])
theorem frames_snoc (ls : List (List Chg)) (ops : List Chg) : frames ((ls ++ [ops]).map recordE) = frames (ls.map recordE) ++ packE (recordE ops) := by rw [← map_snoc, frames_app, frames_one]
theorem TabC.commit (h : TabC D bs ls) (hu : D.down = false) (rows : Rws) (ops : List Chg) (hne : ops ≠ []) (hz : (frames (ls.map recordE)).length + (packE (recordE ops)).length ≤ CB) (hz2 : (packE (recordE (packL (applyE rows ops)))).length ≤ CB) :
  ∃ e T' D', tabCommit ⟨sysP, rows, ⟨sysL, ls.map recordE, false⟩⟩ D ops = (e, T', D') ∧
   (e = 14 ∧ Crash D' bs ls rows ops ∨
   e = 0 ∧ D'.down = false ∧ ∃ bs' ls', T' = ⟨sysP, applyE rows ops, ⟨sysL, ls'.map recordE, false⟩⟩ ∧ TabC D' bs' ls' ∧ (bs' = bs ∧ ls' = ls ++ [ops] ∧ ls.length + 1 < 16 ∨ bs' = some (packL (applyE rows ops)) ∧ ls' = [])) := by
 obtain ⟨e, G', D', hwa, hc⟩ := SysU.walAdd ⟨h.c, hu⟩ h.log (ls.map recordE) false (recordE ops) hz
 unfold tabCommit
 dsimp only
 rw [if_neg hne, hwa]
 dsimp only
 rcases hc with ⟨rfl, h1, h2⟩ | ⟨rfl, h1, h2, h3⟩ | ⟨rfl, rfl, h2, h3, h4⟩
 ·rw [if_pos Zd]
  exact ⟨_, _, _, rfl, .inl ⟨rfl, .inl ⟨h1, h.log.halt (h2 _), baseIs_same (h2 _) h.base⟩⟩⟩
 ·rw [if_pos Zd]
  exact ⟨_, _, _, rfl, .inl ⟨rfl, .inr (.inl ⟨h1, h2, baseIs_same (h3 _ Zd) h.base⟩)⟩⟩
 ·rw [if_neg (fun hh => hh rfl)]
  have hb := baseIs_same (h4 sysB Zd) h.base
  have h3' : Kept D' sysL (frames ((ls ++ [ops]).map recordE)) := by rw [frames_snoc]; exact h3
  by_cases hf : ls.length + 1 < 16
  ·rw [if_neg (by simp; omega)]
   exact ⟨_, _, _, rfl, .inr ⟨rfl, h2.up, bs, ls ++ [ops], by rw [map_snoc], ⟨h2.c, h3', hb⟩, .inl ⟨rfl, rfl, hf⟩⟩⟩
  ·rw [if_pos (by simp; omega)]
   obtain ⟨e, T', D2, hp, hc⟩ := h2.pack h3' hb (applyE rows ops) (ls.map recordE ++ [recordE ops]) false hz2
   refine ⟨_, _, _, hp, ?_⟩
   rcases hc with ⟨rfl, c1, c2, c3 | c3⟩ | ⟨rfl, rfl, c2, c3, c4⟩
   ·exact .inl ⟨rfl, .inr (.inr (.inl ⟨c1, c2, c3⟩))⟩
   ·exact .inl ⟨rfl, .inr (.inr (.inr ⟨c1, c2, c3⟩))⟩
   ·exact .inr ⟨rfl, c2.up, _, [], rfl, ⟨c2.c, c3, c4⟩, .inr ⟨rfl, rfl⟩⟩
def lostI (loss n st : Int) (x : It) : It := if x.loose then ⟨x.dir, loseK loss n x, loseK loss n x, false, false, st⟩ else x
def LoseR (loss : Int) (a b : Option It) : Prop := (a = none → b = none) ∧ ∀ x, a = some x → ∃ n st, b = some (lostI loss n st x)
theorem lose1_get (loss : Int) (s : Int × Dk) (p y : List UInt8) : (y ≠ p → (lose1 loss s p).2.get y = s.2.get y) ∧ (y = p → LoseR loss (s.2.get y) ((lose1 loss s p).2.get y)) := by
 unfold lose1
 split
 ·rename_i hl
  refine ⟨fun h => by rw [Dk.get_set, if_neg h], fun h => ?_⟩
  subst h
  rw [Dk.get_set, if_pos rfl]
  refine ⟨fun h => ?_, fun x h => ?_⟩
  ·rw [Dk.at_get, h] at hl; cases hl
  ·have ha := at_of_get h
   rw [ha] at hl ⊢
   refine ⟨s.1 + 1, IntKind.i64.wrap (s.2.stamps + 1), ?_⟩
   unfold lostI
   rw [if_pos hl]
 ·rename_i hl
  refine ⟨fun _ => rfl, fun h => ?_⟩
  subst h
  refine ⟨fun h => h, fun x h => ⟨0, 0, ?_⟩⟩
  have ha := at_of_get h
  rw [ha] at hl
  unfold lostI
  rw [if_neg hl]
  exact h
theorem lose_fold (loss : Int) : ∀ (ks : List (List UInt8)) (s : Int × Dk), ks.Nodup → ∀ y, (y ∉ ks → (ks.foldl (lose1 loss) s).2.get y = s.2.get y) ∧ (y ∈ ks → LoseR loss (s.2.get y) ((ks.foldl (lose1 loss) s).2.get y))
 |[], s, _, y => ⟨fun _ => rfl, fun h => by simp at h⟩
 |k :: ks, s, hn, y => by
  obtain ⟨hk, hn⟩ := List.nodup_cons.1 hn
  obtain ⟨i1, i2⟩ := lose_fold loss ks (lose1 loss s k) hn y
  obtain ⟨j1, j2⟩ := lose1_get loss s k y
  rw [List.foldl_cons]
  refine ⟨fun h => ?_, fun h => ?_⟩
  ·have h : y ≠ k ∧ y ∉ ks := by simpa using h
   rw [i1 h.2, j1 h.1]
  ·by_cases e : y = k
   ·have := i1 (by rw [e]; exact hk)
    rw [this]
    exact j2 e
   ·have hm : y ∈ ks := by
     rcases List.mem_cons.1 h with h | h
     ·exact absurd h e
     ·exact h
    have := i2 hm
    rwa [j1 e] at this
theorem lose_at {loss : Int} {s : Int × Dk} {p y : List UInt8} : ((lose1 loss s p).2.at y).dir = (s.2.at y).dir ∧ ((s.2.at y).loose = false → ((lose1 loss s p).2.at y).loose = false) ∧ (s.2.has y = true → (lose1 loss s p).2.has y = true) := by
 unfold lose1
 split
 ·rename_i hl
  have hg := Dk.get_set s.2 p y { s.2.at p with data := loseK loss (s.1 + 1) (s.2.at p), kept := loseK loss (s.1 + 1) (s.2.at p), loose := false, anew := false }
  dsimp only
  generalize Dk.set s.2 p { s.2.at p with data := loseK loss (s.1 + 1) (s.2.at p), kept := loseK loss (s.1 + 1) (s.2.at p), loose := false, anew := false } = E at *
  rw [Dk.at_get E, Dk.has_get E, hg]
  by_cases e : y = p
  ·rw [if_pos e, e]
   exact ⟨rfl, fun _ => rfl, fun _ => rfl⟩
  ·rw [if_neg e]
   exact ⟨rfl, id, id⟩
 ·exact ⟨rfl, id, id⟩
theorem SysC.lose1 {loss : Int} {s : Int × Dk} (h : SysC s.2) {p : List UInt8} (hm : p ∈ s.2.items.map Prod.fst) : SysC (Go.Proofs.YtccfiohagbneaaaGreatDoor.lose1 loss s p).2 ∧ (Go.Proofs.YtccfiohagbneaaaGreatDoor.lose1 loss s p).2.items.map Prod.fst = s.2.items.map Prod.fst := by
 have hat := fun y => lose_at (loss := loss) (s := s) (p := p) (y := y)
 have hk := lose1_Kp (loss := loss) (p := p) h.kp
 have hkeys : (Go.Proofs.YtccfiohagbneaaaGreatDoor.lose1 loss s p).2.items.map Prod.fst = s.2.items.map Prod.fst ∧ (Go.Proofs.YtccfiohagbneaaaGreatDoor.lose1 loss s p).2.limits = s.2.limits := by
  unfold Go.Proofs.YtccfiohagbneaaaGreatDoor.lose1
  split
  ·refine ⟨?_, rfl⟩
   show (mset s.2.items p _).map Prod.fst = _
   rw [mset_keys, if_pos hm]
  ·exact ⟨rfl, rfl⟩
 exact ⟨⟨hkeys.2.trans h.lim, by rw [hkeys.1]; exact h.nd, (hat _).1.trans h.dir, (hat _).2.2 h.has, fun y hy => (hat y).1.trans (h.files y hy), hk, (hat _).2.1 h.firm⟩, hkeys.1⟩
theorem SysC.loses {loss : Int} : ∀ {ks : List (List UInt8)} {s : Int × Dk}, SysC s.2 → (∀ p ∈ ks, p ∈ s.2.items.map Prod.fst) → SysC (ks.foldl (Go.Proofs.YtccfiohagbneaaaGreatDoor.lose1 loss) s).2
 |[], _, h, _ => h
 |k :: ks, s, h, hk => by
  obtain ⟨h1, h2⟩ := h.lose1 (loss := loss) (hk k (List.mem_cons_self ..))
  exact SysC.loses (ks := ks) (s := Go.Proofs.YtccfiohagbneaaaGreatDoor.lose1 loss s k) h1 fun p hp => by rw [h2]; exact hk p (List.mem_cons_of_mem _ hp)
theorem SysC.restart (h : SysC D) (loss : Int) : Sys (D.restart loss) ∧ SysC (D.restart loss) ∧ ∀ y, LoseR loss (D.get y) ((D.restart loss).get y) := by
 have hperm : D.keys.Perm (D.items.map Prod.fst) := List.mergeSort_perm _ _
 have h1 : SysC (D.lose loss).2 := SysC.loses (s := (0, D)) h fun p hp => hperm.mem_iff.1 hp
 have h2 : SysC (D.restart loss) := ⟨h1.lim, h1.nd, h1.dir, h1.has, h1.files, h1.kp, h1.firm⟩
 refine ⟨⟨rfl, (by decide : (-1 : Int) < 0), h2.lim, h2.nd, h2.dir, h2.has, h2.files⟩, h2, fun y => ?_⟩
 have hf := lose_fold loss D.keys (0, D) (hperm.nodup_iff.2 h.nd) y
 by_cases hy : y ∈ D.keys
 ·exact hf.2 hy
 ·have hg : (D.restart loss).get y = D.get y := hf.1 hy
  have hn : D.get y = none := mget_none.2 fun hh => hy (hperm.mem_iff.2 hh)
  rw [hg, hn]
  exact ⟨fun h => h, fun x hx => by cases hx⟩
theorem LoseR.kept {D' : Dk} {loss : Int} {p s : List UInt8} (h : LoseR loss (D.get p) (D'.get p)) (hk : Kept D p s) : Kept D' p s := by
 obtain ⟨x, h1, h2, h3, h4, h5, h6⟩ := hk
 obtain ⟨n, st, e⟩ := h.2 x h1
 refine ⟨x, ?_, h2, h3, h4, h5, h6⟩
 rw [e]
 unfold lostI
 rw [h5]
 rfl
theorem LoseR.base {D' : Dk} {loss : Int} (h : LoseR loss (D.get sysB) (D'.get sysB)) (hb : baseIs D bs) : baseIs D' bs := by
 cases bs with
 |none => exact h.1 hb
 |some ops => exact LoseR.kept h hb
theorem LoseR.torn {D' : Dk} {loss : Int} {s r : List UInt8} (h : LoseR loss (D.get sysL) (D'.get sysL)) (ht : LogTorn D s r) : ∃ m, m ≤ r.length ∧ Kept D' sysL (s ++ r.take m) := by
 obtain ⟨⟨dir, data, kept, loose, anew, stamp⟩, h1, h2, h3, h4, h5, h6⟩ := ht
 dsimp only at h2 h3 h4 h5 h6
 rw [h2, h3, h4, h5, h6] at h1
 clear h2 h3 h4 h5 h6
 obtain ⟨n, st, e⟩ := h.2 _ h1
 have he0 := Int.emod_nonneg (mixE (IntKind.u64.wrap loss) n) (show (((s ++ r).length : Int) - s.length + 1) ≠ 0 by rw [List.length_append]; omega)
 have he1 := Int.emod_lt_of_pos (mixE (IntKind.u64.wrap loss) n) (show (0 : Int) < ((s ++ r).length : Int) - s.length + 1 by rw [List.length_append]; omega)
 obtain ⟨m, hm⟩ : ∃ mm : Nat, mixE (IntKind.u64.wrap loss) n % (((s ++ r).length : Int) - s.length + 1) = (mm : Int) := ⟨_, (Int.toNat_of_nonneg he0).symm⟩
 rw [hm] at he0 he1
 have hml : m ≤ r.length := by rw [List.length_append] at he1; omega
 have hK : loseK loss n ⟨false, s ++ r, s, true, false, stamp⟩ = s ++ r.take m := by
  unfold loseK
  rw [if_neg (show ¬ false = true by decide)]
  dsimp only
  rw [hm, show ((s.length : Int) + (m : Int)).toNat = s.length + m by omega, List.take_append, List.take_of_length_le Zo, Nat.add_sub_cancel_left]
 refine ⟨m, hml, _, e, ?_⟩
 unfold lostI
 rw [if_pos (show true = true from rfl), hK]
 exact ⟨rfl, rfl, rfl, rfl, rfl⟩
end
open Go Go.J Go.RowKit
structure TabW (bs : Option (List Chg)) (ls : List (List Chg)) : Prop where
 tot : (frames (ls.map recordE)).length ≤ 900000000
 clean : ∀ l ∈ ls, Clean l
 small : ∀ l ∈ ls, szL l ≤ 8000000
 bclean : Clean (bs.getD [])
 bsmall : szL (bs.getD []) ≤ 100000000
structure Post (D : Dk) (bs : Option (List Chg)) (ls : List (List Chg)) : Prop where
 c : SysC D
 log : ∃ tail, Kept D sysL (frames (ls.map recordE) ++ tail) ∧ (tail = [] ∨ ∃ r j, tail = (packE r).take j ∧ 0 < j ∧ j < (packE r).length ∧ r.length < 9223372036854775808)
 base : baseIs D bs
section
variable {D : Dk} {bs : Option (List Chg)} {ls : List (List Chg)}
theorem TabC.post (h : TabC D bs ls) : Post D bs ls := ⟨h.c, ⟨[], by rw [List.append_nil]; exact h.log, .inl rfl⟩, h.base⟩
theorem Kept.readU {p s : List UInt8} (h : Kept D p s) (hu : D.down = false) : D.read p = (s, 0) := by
 obtain ⟨h1, h2⟩ := h.data
 unfold Dk.read
 rw [hu, if_neg Zd, h.has, if_neg Zd, h2, if_neg Zd, h1]
theorem SysC.kindP (h : SysC D) : D.kind sysP = 1 := by
 unfold Dk.kind
 rw [h.has, if_pos rfl, h.dir, if_pos rfl]
theorem tabBase_of (hu : D.down = false) (hbase : baseIs D bs) (hw : TabW bs ls) : tabBase D sysP = (0, applyE [] (bs.getD [])) := by
 have hbp : baseP sysP = sysB := rfl
 unfold tabBase
 rw [hbp]
 cases bs with
 |none =>
  have hbase : D.get sysB = none := hbase
  have hk : D.kind sysB = 0 := by unfold Dk.kind; rw [Dk.has_get, hbase]; rfl
  rw [if_pos hk]
  rfl
 |some ops =>
  have hbase : Kept D sysB (packE (recordE ops)) := hbase
  have hsm : szL ops ≤ 100000000 := hw.bsmall
  have hl := szL_len ops
  have hrl := recordE_len ops (smO_of Zo) Zo
  have ho := opsE_record ops (smO_of Zo) Zo
  rw [norm_clean (show Clean ops from hw.bclean)] at ho
  rw [hbase.kind, if_neg Zd]
  unfold tabLoad
  rw [hbp, hbase.readU hu]
  dsimp only
  rw [if_neg (fun h => h rfl), readE_pack0 _ Zo]
  dsimp only
  rw [if_neg (fun h => h rfl), if_neg (Nat.lt_irrefl _), ho]
  dsimp only
  rw [if_neg (fun h => h rfl)]
  rfl
theorem TabW.recs (hw : TabW bs ls) : ∀ r ∈ ls.map recordE, r.length ≤ 8000010 := fun r hr => by
 obtain ⟨l, hl, rfl⟩ := List.mem_map.1 hr
 have h1 := hw.small l hl
 have h2 := szL_len l
 have := recordE_len l (smO_of Zo) Zo
 omega
theorem TabW.frames (hw : TabW bs ls) : (frames (ls.map recordE)).length ≤ 900000000 := hw.tot
theorem open_of (h : SysC D) (hu : D.down = false) (hb : baseIs D bs) (hw : TabW bs ls) : tabOpen D sysP = tabLog sysP (applyE [] (bs.getD [])) (walOpen D sysL) := by
 have hmk : tabMk D sysP = (0, D) := by unfold tabMk; rw [h.kindP, if_neg Zd]
 unfold tabOpen
 rw [hmk]
 dsimp only
 rw [if_neg (fun h => h rfl), tabBase_of hu hb hw]
 dsimp only
 rw [if_neg (fun h => h rfl)]
 rfl
theorem tabLog_of (hw : TabW bs ls) (D' : Dk) : tabLog sysP (applyE [] (bs.getD [])) (0, some ⟨sysL, ls.map recordE, false⟩, D') = (0, some ⟨sysP, rowsOf bs ls, ⟨sysL, ls.map recordE, false⟩⟩, D') := by
 unfold tabLog
 dsimp only
 rw [replay_recs ls _ hw.clean (fun l hl => by have := hw.small l hl; omega), if_neg (fun h => h rfl)]
 rfl
theorem Post.wopen (h : Post D bs ls) (hu : D.down = false) (hw : TabW bs ls) :
  ∃ D', walOpen D sysL = (0, some ⟨sysL, ls.map recordE, false⟩, D') ∧ D'.down = false ∧ TabC D' bs ls ∨ walOpen D sysL = (14, none, D') ∧ Post D' bs ls := by
 obtain ⟨tail, hk, ht⟩ := h.log
 have hrs : ∀ r ∈ ls.map recordE, r.length < 9223372036854775808 := fun r hr => by have := hw.recs r hr; omega
 rcases ht with rfl | ⟨r, j, rfl, h0, hj, hr⟩
 ·rw [List.append_nil] at hk
  refine ⟨D, .inl ⟨?_, hu, ⟨h.c, hk, h.base⟩⟩⟩
  unfold Go.Proofs.YtccfiohagbneaaaGreatDoor.walOpen
  rw [hk.kind, if_neg Zd, hk.readU hu]
  dsimp only
  rw [if_neg (fun h => h rfl), scanE_whole _ hrs]
  rfl
 ·have hsc := scanE_torn (ls.map recordE) r j (fun u hu => by
   rcases List.mem_append.1 hu with hu | hu
   ·exact hrs u hu
   ·rw [List.mem_singleton.1 hu]; exact hr) hj h0
  have hf := hw.frames
  have htk : (frames (ls.map recordE) ++ (packE r).take j).take (frames (ls.map recordE)).length = frames (ls.map recordE) := by simp
  unfold Go.Proofs.YtccfiohagbneaaaGreatDoor.walOpen
  rw [hk.kind, if_neg Zd, hk.readU hu]
  dsimp only
  rw [if_neg (fun h => h rfl), hsc]
  dsimp only
  rw [if_pos Zd, htk]
  rcases SysU.fill (p := sysL) (s := frames (ls.map recordE)) ⟨h.c, hu⟩ sysF_L sysF_LT Zd (by unfold CB; omega) with ⟨f1, f2, f3⟩ | ⟨f1, f2, f3, f4⟩
  ·rw [if_pos (by rw [f1]; decide), f1]
   exact ⟨_, .inr ⟨rfl, f2, ⟨_, hk.halt (f3 _ Zd), .inr ⟨r, j, rfl, h0, hj, hr⟩⟩, baseIs_same (f3 _ Zd) h.base⟩⟩
  ·rw [if_neg (fun hh => hh f1)]
   exact ⟨_, .inl ⟨rfl, f2.up, ⟨f2.c, f3, baseIs_same (f4 _ Zd Zd) h.base⟩⟩⟩
theorem Post.open (h : Post D bs ls) (hu : D.down = false) (hw : TabW bs ls) :
  ∃ D', tabOpen D sysP = (0, some ⟨sysP, rowsOf bs ls, ⟨sysL, ls.map recordE, false⟩⟩, D') ∧ Post D' bs ls ∨ tabOpen D sysP = (14, none, D') ∧ Post D' bs ls := by
 obtain ⟨D', ⟨h1, h2, h3⟩ | ⟨h1, h2⟩⟩ := h.wopen hu hw
 ·exact ⟨D', .inl ⟨by rw [open_of h.c hu h.base hw, h1]; exact tabLog_of hw D', h3.post⟩⟩
 ·exact ⟨D', .inr ⟨by rw [open_of h.c hu h.base hw, h1]; rfl, h2⟩⟩
theorem Post.restart (h : Post D bs ls) (loss : Int) : Sys (D.restart loss) ∧ Post (D.restart loss) bs ls := by
 obtain ⟨h1, h2, h3⟩ := h.c.restart loss
 obtain ⟨tail, hk, ht⟩ := h.log
 exact ⟨h1, h2, ⟨tail, (h3 _).kept hk, ht⟩, (h3 _).base h.base⟩
theorem Crash.restart {rows : Rws} {ops : List Chg} (h : Crash D bs ls rows ops) (hr : (recordE ops).length < 9223372036854775808) (loss : Int) :
  ∃ bs' ls', Sys (D.restart loss) ∧ Post (D.restart loss) bs' ls' ∧ (bs' = bs ∧ ls' = ls ∨ bs' = bs ∧ ls' = ls ++ [ops] ∨ bs' = some (packL (applyE rows ops)) ∧ ls' = ls ++ [ops]) := by
 rcases h with h | ⟨h1, h2, h3⟩ | h | h
 ·obtain ⟨a, b⟩ := h.post.restart loss
  exact ⟨_, _, a, b, .inl ⟨rfl, rfl⟩⟩
 ·obtain ⟨a1, a2, a3⟩ := h1.restart loss
  obtain ⟨m, hm, hk⟩ := (a3 sysL).torn h2
  have hb := (a3 sysB).base h3
  by_cases m0 : m = 0
  ·subst m0
   exact ⟨bs, ls, a1, ⟨a2, ⟨_, hk, .inl rfl⟩, hb⟩, .inl ⟨rfl, rfl⟩⟩
  ·by_cases m1 : m = (packE (recordE ops)).length
   ·subst m1
    rw [List.take_length, ← frames_snoc] at hk
    exact ⟨bs, ls ++ [ops], a1, TabC.post ⟨a2, hk, hb⟩, .inr (.inl ⟨rfl, rfl⟩)⟩
   ·exact ⟨bs, ls, a1, ⟨a2, ⟨_, hk, .inr ⟨recordE ops, m, rfl, Zo, Zo, hr⟩⟩, hb⟩, .inl ⟨rfl, rfl⟩⟩
 ·obtain ⟨a, b⟩ := h.post.restart loss
  exact ⟨_, _, a, b, .inr (.inl ⟨rfl, rfl⟩)⟩
 ·obtain ⟨a, b⟩ := h.post.restart loss
  exact ⟨_, _, a, b, .inr (.inr ⟨rfl, rfl⟩)⟩
end
open Go Go.J Go.RowKit
theorem compare_c (a b : List UInt8) (w0 : World) : Cal Tryz.prog 192 [str a, str b] w0 (fun v w' => Upd [] w0 w' ∧ v = .int .i64 (Lib.compareBytes a b)) :=
 ⟨Zk, (Any.strings_Compare Tryz.compareL ⟨⟨a⟩⟩ ⟨⟨b⟩⟩ w0).mono fun e w' ⟨h1, h2⟩ => ⟨_, h1, by rw [h2]; exact .refl _ _, rfl⟩⟩
theorem tcmp_c (e : Ent) (p : List UInt8) (w0 : World) : Cal Tryz.prog 217 [.agg ⟨encEnt e⟩, str p] w0 (fun v w' => Upd [] w0 w' ∧ v = .int .i64 (Lib.compareBytes e.path p)) := by
 refine Cal.mk' Zk Tryz.func217 rfl rfl fun hS => ?_
 obtain ⟨path, kind, data⟩ := e
 repeat' (first | (show WL _ _ _ _ _ _ _; first | refine WL.pure rfl rfl rfl rfl ?_ | refine WL.nil ?_ | refine WL.load hS rfl rfl (LdOk.box (by repeat (first | exact Zh | apply List.Mem.tail)) rfl) rfl rfl rfl ?_ | (refine WL.calls hS rfl rfl (compare_c path p _) rfl rfl rfl ?_; rintro v w rfl hS) | (refine WL.box hS rfl rfl rfl rfl rfl ?_; intro w b hS)) | (show WC _ _ _ _ _ _; first | refine WC.seq ?_ | refine WC.region ?_ | refine WC.ret ?_) | refine seqQ_n ?_)
 exact fin1r rfl rfl ⟨hS.upd, rfl⟩
def findIs (t : List Ent) (p : List UInt8) (i : Nat) (b : Bool) : Prop := (b = true ∧ ∃ h : i < t.length, t[i].path = p) ∨ (b = false ∧ ∀ e ∈ t, e.path ≠ p)
abbrev cmpF : Value := .func (.func 217) ⟨[]⟩ ⟨[]⟩
theorem bsearch_c (t : List Ent) (p : List UInt8) {A : Option Addr} {cap : Nat} {w0 : World} (hA : SlAt cEnt (Old w0) w0 A t) (hr : Rise t t.length) (hl : t.length ≤ 1048576) :
  Cal Tryz.prog 216 [.slice A t.length cap, str p, cmpF] w0 (fun v w' => Upd [] w0 w' ∧ ∃ (i : Nat) (b : Bool), v = .tuple #[.int .i64 (i : Int), .bool b] ∧ findIs t p i b) := by
 refine Cal.mk' Zk Tryz.func216 rfl rfl fun hS => ?_
 repeat' (first | (show WL _ _ _ _ _ _ _; first | refine WL.pure rfl rfl rfl rfl ?_ | refine WL.nil ?_) | (show WC _ _ _ _ _ _; first | refine WC.seq ?_ | refine WC.region ?_ | refine WC.block ?_) | refine seqQ_n ?_)
 refine WC.loop (σ := Nat × Nat) [0, 1, 2, 8] (fun (i, j) => [(9, .int .i64 (i : Int)), (10, .int .i64 (j : Int))])
  (fun (i, j) w => (i ≤ j ∧ j ≤ t.length ∧ (∀ k (h : k < t.length), k < i → Op.bytesLess t[k].path p = true) ∧ (∀ k (h : k < t.length), j ≤ k → Op.bytesLess t[k].path p = false)) ∧ St w0 [] w [] [⟨w0, Old w0⟩])
  (fun (i, j) => j - i) (0, t.length) ⟨⟨Nat.zero_le _, Nat.le_refl _, fun k _ h => absurd h (Nat.not_lt_zero _), fun k h1 h2 => Zo⟩, hS⟩ ⟨rfl, rfl, trivial⟩ ?_
 clear hS
 rintro ⟨i, j⟩ g w ⟨⟨hij, hj, hlo, hhi⟩, hS⟩
 show WC _ _ _ (lf _ [(9, .int .i64 (i : Int)), (10, .int .i64 (j : Int))] _ _) _ _
 by_cases hlt : i < j
 ·obtain ⟨m, hm⟩ : ∃ m, m = (i + j) / 2 := ⟨_, rfl⟩
  have hml : m < t.length := Zo
  have hsh : shrI .u64 ((i : Int) + (j : Int)) 1 = ((m : Nat) : Int) := (shrI_nat .u64 (i + j) 1 Zd).trans (by rw [hm])
  obtain ⟨rb, ro, es, rfl, hF, hrr, hes⟩ := hA.at_ hml
  have hes : es = encEnt t[m] := hes
  subst hes
  have hrr : w0.rangeAt rb (ro + m * 3) (encEnt t[m]) := hrr
  have hcl := cmp_lt t[m].path p
  cases hb : Op.bytesLess t[m].path p with
  |true =>
   rw [hb] at hcl
   have hc0 : Lib.compareBytes t[m].path p < 0 := hcl.2 rfl
   have hlo2 : ∀ k (h : k < t.length), k < m + 1 → Op.bytesLess t[k].path p = true := fun k hk hkm => by
    by_cases e : k = m
    ·subst e; exact hb
    ·exact less_trans (hr k m Zo hml hml) hb
   obtain ⟨HL, rfl⟩ : ∃ h : (∀ k (h : k < t.length), k < m + 1 → Op.bytesLess t[k].path p = true), h = hlo2 := ⟨_, rfl⟩
   have hc := fun w0 => tcmp_c t[m] p w0
   generalize Lib.compareBytes t[m].path p = c at *
   generalize t[m] = e at *
   clear hcl hlo
   repeat' (first | (show WL _ _ _ _ _ _ _; first | (refine WL.cvU rfl rfl rfl Zo rfl rfl rfl ?_) | refine WL.pure rfl rfl rfl rfl ?_ | refine WL.nil ?_ | refine WL.add rfl rfl rfl Zo rfl rfl rfl ?_ | (refine WL.shr rfl rfl rfl Zd rfl rfl rfl ?_; rw [hsh]) | (refine WL.load hS rfl rfl (LdOk.snap0 hF hrr (by repeat (first | exact Zh | apply List.Mem.tail)) rfl) rfl rfl rfl ?_) | (refine WL.callF rfl rfl rfl (hc _) rfl rfl rfl ?_; rintro v w ⟨hu, rfl⟩; replace hS := hS.upd0 hu; clear hu) | refine WL.conv64 rfl rfl rfl Zo rfl rfl rfl ?_ | refine WL.index rfl rfl rfl rfl Zw rfl rfl rfl rfl ?_) | (show WC _ _ _ _ _ _; first | refine WC.seq ?_ | refine WC.region ?_ | refine WC.block ?_ | refine WC.skip ?_ | refine WC.condT rfl (decide_eq_true Zw) ?_) | refine seqQ_n ?_ | refine blkQ_n ?_)
   exact rndQ_n (m + 1, j) ⟨⟨Zo, hj, HL, hhi⟩, hS⟩ (by show j - (m + 1) < j - i; omega) ⟨vint Zo, rfl, trivial⟩ ⟨rfl, rfl, rfl, rfl, trivial⟩
  |false =>
   rw [hb] at hcl
   have hc0 : ¬ Lib.compareBytes t[m].path p < 0 := fun h => by have := hcl.1 h; cases this
   have hhi2 : ∀ k (h : k < t.length), m ≤ k → Op.bytesLess t[k].path p = false := fun k hk hkm => by
    by_cases e : k = m
    ·subst e; exact hb
    ·cases h2 : Op.bytesLess t[k].path p with
     |false => rfl
     |true => have := less_trans (hr m k Zo hk hk) h2; rw [hb] at this; cases this
   obtain ⟨HH, rfl⟩ : ∃ h : (∀ k (h : k < t.length), m ≤ k → Op.bytesLess t[k].path p = false), h = hhi2 := ⟨_, rfl⟩
   have hc := fun w0 => tcmp_c t[m] p w0
   generalize Lib.compareBytes t[m].path p = c at *
   generalize t[m] = e at *
   clear hcl hhi
   repeat' (first | (show WL _ _ _ _ _ _ _; first | (refine WL.cvU rfl rfl rfl Zo rfl rfl rfl ?_) | refine WL.pure rfl rfl rfl rfl ?_ | refine WL.nil ?_ | refine WL.add rfl rfl rfl Zo rfl rfl rfl ?_ | (refine WL.shr rfl rfl rfl Zd rfl rfl rfl ?_; rw [hsh]) | (refine WL.load hS rfl rfl (LdOk.snap0 hF hrr (by repeat (first | exact Zh | apply List.Mem.tail)) rfl) rfl rfl rfl ?_) | (refine WL.callF rfl rfl rfl (hc _) rfl rfl rfl ?_; rintro v w ⟨hu, rfl⟩; replace hS := hS.upd0 hu; clear hu) | refine WL.conv64 rfl rfl rfl Zo rfl rfl rfl ?_ | refine WL.index rfl rfl rfl rfl Zw rfl rfl rfl rfl ?_) | (show WC _ _ _ _ _ _; first | refine WC.seq ?_ | refine WC.region ?_ | refine WC.block ?_ | refine WC.skip ?_ | refine WC.condT rfl (decide_eq_true Zw) ?_ | refine WC.condF rfl (decide_eq_false Zw) ?_) | refine seqQ_n ?_ | refine blkQ_n ?_)
   exact rndQ_n (i, m) ⟨⟨Zo, Zo, hlo, HH⟩, hS⟩ (by show m - i < j - i; omega) ⟨rfl, vint Zo, trivial⟩ ⟨rfl, rfl, rfl, rfl, trivial⟩
 ·have hie : j = i := Zo
  subst hie
  have hfi : ∀ b : Bool, (b = true → ∃ h : j < t.length, t[j].path = p) → (b = false → ∀ h : j < t.length, t[j].path ≠ p) → findIs t p j b := fun b h1 h2 => by
   cases b with
   |true => exact .inl ⟨rfl, h1 rfl⟩
   |false =>
    refine .inr ⟨rfl, fun e he hp => ?_⟩
    obtain ⟨k, hk, rfl⟩ := List.getElem_of_mem he
    rcases Nat.lt_trichotomy k j with h | h | h
    ·have := hlo k hk h; rw [hp, less_irr] at this; cases this
    ·subst h; exact h2 rfl hk hp
    ·have h3 := hhi j Zo (Nat.le_refl _)
     have h4 := hr j k h hk hk
     rw [hp, h3] at h4
     cases h4
  clear hlo hhi
  by_cases hjl : j < t.length
  ·obtain ⟨rb, ro, es, rfl, hF, hrr, hes⟩ := hA.at_ hjl
   have hes : es = encEnt t[j] := hes
   subst hes
   have hrr : w0.rangeAt rb (ro + j * 3) (encEnt t[j]) := hrr
   have hce := cmp_eq t[j].path p
   have hfin : findIs t p j (decide (Lib.compareBytes t[j].path p = 0)) := hfi _ (fun h => ⟨hjl, hce.1 (of_decide_eq_true h)⟩) (fun h _ e => absurd (hce.2 e) (of_decide_eq_false h))
   have hc := fun w0 => tcmp_c t[j] p w0
   generalize Lib.compareBytes t[j].path p = c at *
   generalize t[j] = e at *
   clear hce hfi
   repeat' (first | (show WL _ _ _ _ _ _ _; first | refine WL.pure rfl rfl rfl rfl ?_ | refine WL.nil ?_ | (refine WL.load hS rfl rfl (LdOk.snap0 hF hrr (by repeat (first | exact Zh | apply List.Mem.tail)) rfl) rfl rfl rfl ?_) | (refine WL.callF rfl rfl rfl (hc _) rfl rfl rfl ?_; rintro v w ⟨hu, rfl⟩; replace hS := hS.upd0 hu; clear hu) | refine WL.index rfl rfl rfl rfl Zw rfl rfl rfl rfl ?_ | ((fail_if_success (refine WL.wanted rfl ?_)); refine WL.guard rfl rfl rfl (fun h => ?_) (fun h => ?_) <;> (try simp only [Ya,Yb,Yc,Yd,Ye,Yf,Yg,Yh,Yi,Yj,Yk,Yl,Ym,Yn,Yo,Yp] at h) <;> (try exact Zx))) | (show WC _ _ _ _ _ _; first | refine WC.seq ?_ | refine WC.region ?_ | refine WC.exit ?_ | refine WC.ret ?_ | refine WC.condF rfl (decide_eq_false Zw) ?_) | refine seqQ_n ?_ | refine seqQ_x ?_ | refine blkQ_hit rfl ?_ | refine rndQ_x ?_)
   exact fin2r rfl rfl rfl ⟨hS.upd, j, _, rfl, hfin⟩
  ·have hfin := hfi false (fun h => by cases h) (fun _ h => absurd h hjl)
   clear hfi
   repeat' (first | (show WL _ _ _ _ _ _ _; first | refine WL.pure rfl rfl rfl rfl ?_ | refine WL.nil ?_ | refine WL.skip rfl rfl rfl ?_ | ((fail_if_success (refine WL.wanted rfl ?_)); refine WL.guard rfl rfl rfl (fun h => ?_) (fun h => ?_) <;> (try simp only [Ya,Yb,Yc,Yd,Ye,Yf,Yg,Yh,Yi,Yj,Yk,Yl,Ym,Yn,Yo,Yp] at h) <;> (try exact Zx))) | (show WC _ _ _ _ _ _; first | refine WC.seq ?_ | refine WC.region ?_ | refine WC.exit ?_ | refine WC.ret ?_ | refine WC.condF rfl (decide_eq_false Zw) ?_) | refine seqQ_n ?_ | refine seqQ_x ?_ | refine blkQ_hit rfl ?_ | refine rndQ_x ?_)
   exact fin2r rfl rfl rfl ⟨hS.upd, j, false, rfl, hfin⟩
theorem tfind_c (t : List Ent) (p : List UInt8) {A : Option Addr} {cap : Nat} {w0 : World} (hA : SlAt cEnt (Old w0) w0 A t) (hr : Rise t t.length) (hl : t.length ≤ 1048576) :
  Cal Tryz.prog 189 [.slice A t.length cap, str p] w0 (fun v w' => Upd [] w0 w' ∧ ∃ (i : Nat) (b : Bool), v = .tuple #[.int .i64 (i : Int), .bool b] ∧ findIs t p i b) := by
 refine Cal.mk' Zk Tryz.func189 rfl rfl fun hS => ?_
 repeat' (first | (show WL _ _ _ _ _ _ _; first | refine WL.pure rfl rfl rfl rfl ?_ | refine WL.nil ?_ | (refine WL.callG rfl rfl (bsearch_c t p hA hr hl) rfl rfl rfl ?_; rintro v w ⟨hu, i, fb, rfl, hf⟩; replace hS := hS.upd0 hu; clear hu)) | (show WC _ _ _ _ _ _; first | refine WC.seq ?_ | refine WC.region ?_ | refine WC.ret ?_) | refine seqQ_n ?_)
 exact fin2r rfl rfl rfl ⟨hS.upd, i, fb, rfl, hf⟩
abbrev nodeV (e : Ent) : Value := .agg ⟨[.int .i64 e.kind, str e.data]⟩
theorem trget_c (t : List Ent) (p : List UInt8) {A : Option Addr} {cap n : Nat} {w0 : World} (hA : SlAt cEnt (Old w0) w0 A t) (hr : Rise t t.length) (hl : t.length ≤ 1048576) (hn : n = t.length) :
  Cal Tryz.prog 160 [.slice A n cap, str p] w0 (fun v w' => Upd [] w0 w' ∧ v = nodeV (getT t p)) := by
 subst hn
 refine Cal.mk' Zk Tryz.func160 rfl rfl fun hS => ?_
 have hfc : ∀ w, (∃ S : St w0 [] w [] [⟨w0, Old w0⟩], True) → True := fun _ _ => trivial
 by_cases hx : ∃ i, ∃ h : i < t.length, t[i].path = p
 ·obtain ⟨i0, hi0, he0⟩ := hx
  have hfi : ∀ i fb, findIs t p i fb → fb = true ∧ i = i0 := fun i fb h => by
   rcases h with ⟨h1, h2, h3⟩ | ⟨_, h2⟩
   ·refine ⟨h1, ?_⟩
    rcases Nat.lt_trichotomy i i0 with h | h | h
    ·have := hr i i0 h hi0 hi0; rw [h3, he0, less_irr] at this; cases this
    ·exact h
    ·have := hr i0 i h h2 h2; rw [h3, he0, less_irr] at this; cases this
   ·exact absurd he0 (h2 _ (List.getElem_mem hi0))
  have hga := getT_at hr hi0
  rw [he0] at hga
  obtain ⟨rb, ro, es, rfl, hF, hrr, hes⟩ := hA.at_ hi0
  have hes : es = encEnt t[i0] := hes
  subst hes
  have hrr : w0.rangeAt rb (ro + i0 * 3) (encEnt t[i0]) := hrr
  rw [hga]
  generalize t[i0] = e at *
  obtain ⟨epath, ekind, edata⟩ := e
  clear hfc
  repeat' (first | (show WL _ _ _ _ _ _ _; first | refine WL.pure rfl rfl rfl rfl ?_ | refine WL.nil ?_ | (refine WL.callG rfl rfl (tfind_c t p (hS.slO (by repeat (first | exact Zh | apply List.Mem.tail)) hA) hr hl) rfl rfl rfl ?_; rintro v w ⟨hu, i, fb, rfl, hf⟩; replace hS := hS.upd0 hu; clear hu; obtain ⟨rfl, rfl⟩ := hfi _ _ hf) | (refine WL.load hS rfl rfl (LdOk.snap (off := 1) hF hrr (by repeat (first | exact Zh | apply List.Mem.tail)) rfl) rfl rfl rfl ?_) | (refine WL.store hS rfl rfl rfl Sb rfl rfl rfl ?_; intro w hS) | (refine WL.alloc hS rfl rfl rfl rfl rfl rfl ?_; intro w b hS) | refine WL.index rfl rfl rfl rfl Zw rfl rfl rfl rfl ?_) | (show WC _ _ _ _ _ _; first | refine WC.seq ?_ | refine WC.region ?_ | refine WC.ret ?_ | refine WC.condT rfl Zr ?_) | refine seqQ_n ?_ | refine seqQ_r ?_)
  exact finC1r hS rfl rfl (LdOk.box Zh rfl) ⟨hS.upd, rfl⟩
 ·have hno : ∀ e ∈ t, e.path ≠ p := fun e he hp => by
   obtain ⟨i, hi, rfl⟩ := List.getElem_of_mem he
   exact hx ⟨i, hi, hp⟩
  have hfi : ∀ i fb, findIs t p i fb → fb = false := fun i fb h => by
   rcases h with ⟨_, h2, h3⟩ | ⟨h1, _⟩
   ·exact absurd ⟨i, h2, h3⟩ hx
   ·exact h1
  rw [getT_no hno]
  clear hx hno hfc
  repeat' (first | (show WL _ _ _ _ _ _ _; first | refine WL.pure rfl rfl rfl rfl ?_ | refine WL.nil ?_ | (refine WL.callG rfl rfl (tfind_c t p (hS.slO (by repeat (first | exact Zh | apply List.Mem.tail)) hA) hr hl) rfl rfl rfl ?_; rintro v w ⟨hu, i, fb, rfl, hf⟩; replace hS := hS.upd0 hu; clear hu; obtain rfl := hfi _ _ hf) | (refine WL.store hS rfl rfl rfl Sb rfl rfl rfl ?_; intro w hS) | (refine WL.alloc hS rfl rfl rfl rfl rfl rfl ?_; intro w b hS) | refine WL.build rfl rfl rfl rfl rfl ?_) | (show WC _ _ _ _ _ _; first | refine WC.seq ?_ | refine WC.region ?_ | refine WC.skip ?_ | refine WC.ret ?_ | refine WC.condF rfl Zr ?_) | refine seqQ_n ?_)
  exact finC1r hS rfl rfl (LdOk.box Zh rfl) ⟨hS.upd, rfl⟩
theorem checkT_ok {t : List Ent} (h : t.length ≤ 200) (ho : TreeOk t) : checkT t = 0 := by
 unfold checkT
 rw [if_neg Zo, if_pos ho]
open Go Go.J Go.RowKit
theorem isnan_c (n : Int) (w0 : World) : Cal Tryz.prog 218 [.int .i64 n] w0 (fun v w' => Upd [] w0 w' ∧ v = .bool false) := by
 refine Cal.mk' Zk Tryz.func218 rfl rfl fun hS => ?_
 repeat' (first | (show WL _ _ _ _ _ _ _; first | refine WL.pure rfl rfl rfl rfl ?_ | refine WL.nil ?_) | (show WC _ _ _ _ _ _; first | refine WC.seq ?_ | refine WC.region ?_ | refine WC.ret ?_) | refine seqQ_n ?_)
 exact fin1r rfl rfl ⟨hS.upd, by simp⟩
def cmpI (m n : Int) : Int := if m < n then -1 else if n < m then 1 else 0
theorem ccmp_c (m n : Int) (w0 : World) : Cal Tryz.prog 191 [.int .i64 m, .int .i64 n] w0 (fun v w' => Upd [] w0 w' ∧ v = .int .i64 (cmpI m n)) := by
 refine Cal.mk' Zk Tryz.func191 rfl rfl fun hS => ?_
 unfold cmpI
 by_cases h1 : m < n
 ·rw [if_pos h1]
  repeat' (first | (show WL _ _ _ _ _ _ _; first | refine WL.pure rfl rfl rfl rfl ?_ | refine WL.nil ?_ | (refine WL.calls hS rfl rfl (isnan_c _ _) rfl rfl rfl ?_; rintro v w rfl hS)) | (show WC _ _ _ _ _ _; first | refine WC.seq ?_ | refine WC.region ?_ | refine WC.skip ?_ | refine WC.ret ?_ | refine WC.condF rfl Zr ?_ | refine WC.condT rfl (decide_eq_true Zw) ?_) | refine seqQ_n ?_ | refine seqQ_r ?_)
  exact fin1r rfl rfl ⟨hS.upd, rfl⟩
 ·rw [if_neg h1]
  by_cases h2 : n < m
  ·rw [if_pos h2]
   repeat' (first | (show WL _ _ _ _ _ _ _; first | refine WL.pure rfl rfl rfl rfl ?_ | refine WL.nil ?_ | (refine WL.calls hS rfl rfl (isnan_c _ _) rfl rfl rfl ?_; rintro v w rfl hS)) | (show WC _ _ _ _ _ _; first | refine WC.seq ?_ | refine WC.region ?_ | refine WC.skip ?_ | refine WC.ret ?_ | refine WC.condF rfl Zr ?_ | refine WC.condT rfl (decide_eq_true Zw) ?_ | refine WC.condF rfl (decide_eq_false Zw) ?_) | refine seqQ_n ?_ | refine seqQ_r ?_)
   exact fin1r rfl rfl ⟨hS.upd, rfl⟩
  ·rw [if_neg h2]
   repeat' (first | (show WL _ _ _ _ _ _ _; first | refine WL.pure rfl rfl rfl rfl ?_ | refine WL.nil ?_ | (refine WL.calls hS rfl rfl (isnan_c _ _) rfl rfl rfl ?_; rintro v w rfl hS)) | (show WC _ _ _ _ _ _; first | refine WC.seq ?_ | refine WC.region ?_ | refine WC.skip ?_ | refine WC.ret ?_ | refine WC.condF rfl Zr ?_ | refine WC.condF rfl (decide_eq_false Zw) ?_) | refine seqQ_n ?_)
   exact fin1r rfl rfl ⟨hS.upd, rfl⟩
def orE (xs : List Int) : Int := (xs.find? fun n => decide (n ≠ 0)).getD 0
theorem cor_c (xs : List Int) {A : Option Addr} {cap : Nat} {w0 : World} (hA : SlAt cInt (Old w0) w0 A xs) (hl : xs.length ≤ 1048576) : Cal Tryz.prog 190 [.slice A xs.length cap] w0 (fun v w' => Upd [] w0 w' ∧ v = .int .i64 (orE xs)) := by
 refine Cal.mk' Zk Tryz.func190 rfl rfl fun hS => ?_
 repeat' (first | (show WL _ _ _ _ _ _ _; first | refine WL.pure rfl rfl rfl rfl ?_ | refine WL.nil ?_) | (show WC _ _ _ _ _ _; first | refine WC.seq ?_ | refine WC.region ?_ | refine WC.block ?_) | refine seqQ_n ?_)
 refine WC.loop (σ := Nat) [3, 6, 7] (fun i => [(8, .int .i64 (i : Int))]) (fun i w => (i ≤ xs.length ∧ ∀ k (h : k < xs.length), k < i → xs[k] = 0) ∧ St w0 [] w [] [⟨w0, Old w0⟩]) (fun i => xs.length - i) 0 ⟨⟨Nat.zero_le _, fun k _ h => absurd h (Nat.not_lt_zero _)⟩, hS⟩ ⟨rfl, trivial⟩ ?_
 clear hS
 rintro i g w ⟨⟨hi, hz⟩, hS⟩
 show WC _ _ _ (lf _ [(8, .int .i64 (i : Int))] _ _) _ _
 by_cases hlt : i < xs.length
 ·obtain ⟨b, o, es, rfl, hF, hr, hes⟩ := hA.at_ hlt
  have hes : es = [.int .i64 xs[i]] := hes
  subst hes
  have hr : w0.rangeAt b (o + i * 1) [.int .i64 xs[i]] := hr
  by_cases h0 : xs[i] = 0
  ·have hz2 : ∀ k (h : k < xs.length), k < i + 1 → xs[k] = 0 := fun k hk hki => by
    by_cases e : k = i
    ·subst e; exact h0
    ·exact hz k hk Zo
   obtain ⟨HZ, rfl⟩ : ∃ h : (∀ k (h : k < xs.length), k < i + 1 → xs[k] = 0), h = hz2 := ⟨_, rfl⟩
   generalize xs[i] = n at *
   subst h0
   clear hz
   repeat' (first | (show WL _ _ _ _ _ _ _; first | refine WL.pure rfl rfl rfl rfl ?_ | refine WL.nil ?_ | refine WL.add rfl rfl rfl Zo rfl rfl rfl ?_ | (refine WL.load hS rfl rfl (LdOk.snap0 hF hr (by repeat (first | exact Zh | apply List.Mem.tail)) rfl) rfl rfl rfl ?_) | refine WL.index rfl rfl rfl rfl Zw rfl rfl rfl rfl ?_) | (show WC _ _ _ _ _ _; first | refine WC.seq ?_ | refine WC.region ?_ | refine WC.block ?_ | refine WC.skip ?_ | refine WC.condF rfl Zd ?_ | refine WC.condT rfl (decide_eq_true Zw) ?_) | refine seqQ_n ?_ | refine blkQ_n ?_)
   exact rndQ_n (i + 1) ⟨⟨Zo, HZ⟩, hS⟩ (by show xs.length - (i + 1) < xs.length - i; omega) ⟨vint Zo, trivial⟩ ⟨rfl, rfl, rfl, trivial⟩
  ·have hres : orE xs = xs[i] := by
    unfold orE
    have : xs.find? (fun n => decide (n ≠ 0)) = some xs[i] := List.find?_eq_some_iff_getElem.2 ⟨by simp [h0], i, hlt, rfl, fun j hj => by simp [hz j Zo hj]⟩
    rw [this]
    rfl
   rw [hres]
   generalize xs[i] = n at *
   clear hz
   repeat' (first | (show WL _ _ _ _ _ _ _; first | refine WL.pure rfl rfl rfl rfl ?_ | refine WL.nil ?_ | (refine WL.load hS rfl rfl (LdOk.snap0 hF hr (by repeat (first | exact Zh | apply List.Mem.tail)) rfl) rfl rfl rfl ?_) | refine WL.index rfl rfl rfl rfl Zw rfl rfl rfl rfl ?_) | (show WC _ _ _ _ _ _; first | refine WC.seq ?_ | refine WC.region ?_ | refine WC.block ?_ | refine WC.skip ?_ | refine WC.ret ?_ | refine WC.condT rfl (decide_eq_true Zw) ?_) | refine seqQ_n ?_ | refine seqQ_r ?_ | refine blkQ_r ?_ | refine rndQ_r ?_)
   exact fin1r rfl rfl ⟨hS.upd, rfl⟩
 ·have hres : orE xs = 0 := by
   unfold orE
   rw [List.find?_eq_none.2 fun x hx => ?_]
   ·rfl
   ·obtain ⟨k, hk, rfl⟩ := List.getElem_of_mem hx
    simp [hz k hk Zo]
  rw [hres]
  clear hz
  repeat' (first | (show WL _ _ _ _ _ _ _; first | refine WL.pure rfl rfl rfl rfl ?_ | refine WL.nil ?_) | (show WC _ _ _ _ _ _; first | refine WC.seq ?_ | refine WC.region ?_ | refine WC.exit ?_ | refine WC.ret ?_ | refine WC.condF rfl (decide_eq_false Zw) ?_) | refine seqQ_n ?_ | refine seqQ_x ?_ | refine blkQ_hit rfl ?_ | refine rndQ_x ?_)
  exact fin1r rfl rfl ⟨hS.upd, rfl⟩
def cmpA (a b : Ac) : Int := orE [cmpI a.root b.root, Lib.compareBytes a.path b.path]
theorem cmpA_lt (a b : Ac) : (cmpA a b < 0) ↔ ltA (keyA a) (keyA b) = true := by
 unfold cmpA orE ltA cmpI
 by_cases h : a.root = b.root
 ·rw [if_pos h, h, if_neg Zo, if_neg Zo]
  have := cmp_lt a.path b.path
  by_cases h2 : Lib.compareBytes a.path b.path = 0
  ·simp [h2] at this ⊢; exact this
  ·simp [h2]; exact this
 ·rw [if_neg h]
  by_cases h2 : a.root < b.root
  ·rw [if_pos h2]; simp [h2]
  ·rw [if_neg h2, if_pos Zo]; simp [h2]
theorem cmpA_eq (a b : Ac) : cmpA a b = 0 ↔ keyA a = keyA b := by
 unfold cmpA orE cmpI keyA
 by_cases h : a.root = b.root
 ·rw [h, if_neg Zo, if_neg Zo]
  have := cmp_eq a.path b.path
  by_cases h2 : Lib.compareBytes a.path b.path = 0
  ·simp [h2] at this ⊢; exact this
  ·simp [h2]; exact fun e => h2 (this.2 e)
 ·by_cases h2 : a.root < b.root
  ·rw [if_pos h2]; simp; omega
  ·rw [if_neg h2, if_pos Zo]; simp; omega
theorem order_c (a b : Ac) (w0 : World) : Cal Tryz.prog 162 [.agg ⟨encAc a⟩, .agg ⟨encAc b⟩] w0 (fun v w' => Upd [] w0 w' ∧ v = .int .i64 (cmpA a b)) := by
 refine Cal.mk' Zk Tryz.func162 rfl rfl fun hS => ?_
 unfold cmpA
 obtain ⟨aroot, apath, akind, adata⟩ := a
 obtain ⟨broot, bpath, bkind, bdata⟩ := b
 repeat' (first | (show WL _ _ _ _ _ _ _; first | refine WL.pure rfl rfl rfl rfl ?_ | refine WL.nil ?_ | (refine WL.box hS rfl rfl rfl rfl rfl ?_; intro w b hS)) | (show WC _ _ _ _ _ _; first | refine WC.seq ?_ | refine WC.region ?_ | refine WC.ret ?_ | (show WC _ _ (Code.region _ (List.toArray [_, _, _, _, _, _, _, _, _, _, _, _, _]) true) _ _ _; refine WC.drawS hS [0,1,2,3,5,6,7,8,12] [0,1,2,3,5,6,7,8,4,9,10,11,12] Zk Zk ?_; clear hS; intro w hS hM)) | (show WD _ _ _ _ _ _ _ _ _; first | refine WD.pure rfl rfl rfl rfl rfl ?_ | refine WD.nil ?_ | refine WD.load rfl rfl (LdOk.box (by repeat (first | exact Zh | apply List.Mem.tail)) rfl) rfl rfl rfl rfl ?_ | (refine WD.calls hS hM rfl rfl (ccmp_c _ _ _) rfl rfl rfl rfl rfl ?_; clear hS; rintro v w rfl hS) | (refine WD.calls hS hM rfl rfl (compare_c _ _ _) rfl rfl rfl rfl rfl ?_; clear hS; rintro v w rfl hS) | (refine WD.calls hS hM rfl rfl (cor_c [cmpI aroot broot, Lib.compareBytes apath bpath] (St.boxSl (enc := fun n => [.int .i64 n]) (hsz := fun _ => rfl) [cmpI aroot broot, Lib.compareBytes apath bpath] Zd hS (by repeat (first | exact Zh | apply List.Mem.tail)) (show 2 ≤ maxLen by decide)) (show 2 ≤ 1048576 by decide)) rfl rfl rfl rfl rfl ?_; clear hS; rintro v w rfl hS) | (refine WD.slit hS hM rfl rfl rfl rfl rfl rfl rfl ?_; intro w b hS hM)) | refine seqQ_n ?_)
 exact fin1r rfl rfl ⟨hS.upd, rfl⟩
abbrev ordF : Value := .func (.func 162) ⟨[]⟩ ⟨[]⟩
structure PlcA (l : List Ac) (x : Ac) (i : Nat) (b : Bool) : Prop where
 le : i ≤ l.length
 lo : ∀ k (h : k < l.length), k < i → ltA (keyA l[k]) (keyA x) = true
 yes : b = true → ∃ h : i < l.length, keyA l[i] = keyA x
 no : b = false → ∀ h : i < l.length, ltA (keyA l[i]) (keyA x) = false ∧ keyA l[i] ≠ keyA x
theorem bsearchA_c (t : List Ac) (x : Ac) {A : Option Addr} {cap : Nat} {w0 : World} (hA : SlAt cAc (Old w0) w0 A t) (hr : RiseG keyA ltA t) (hl : t.length ≤ 1048576) :
  Cal Tryz.prog 161 [.slice A t.length cap, .agg ⟨encAc x⟩, ordF] w0 (fun v w' => Upd [] w0 w' ∧ ∃ (i : Nat) (b : Bool), v = .tuple #[.int .i64 (i : Int), .bool b] ∧ PlcA t x i b) := by
 refine Cal.mk' Zk Tryz.func161 rfl rfl fun hS => ?_
 have hr : ∀ j k (hj : j < t.length) (hk : k < t.length), j < k → ltA (keyA t[j]) (keyA t[k]) = true := fun j k hj hk h => List.pairwise_iff_getElem.1 hr j k hj hk h
 repeat' (first | (show WL _ _ _ _ _ _ _; first | refine WL.pure rfl rfl rfl rfl ?_ | refine WL.nil ?_ | (refine WL.box hS rfl rfl rfl rfl rfl ?_; intro w b hS)) | (show WC _ _ _ _ _ _; first | refine WC.seq ?_ | refine WC.region ?_ | refine WC.block ?_) | refine seqQ_n ?_)
 obtain ⟨xb, hxb⟩ : ∃ xb, xb = w0.heap.size := ⟨_, rfl⟩
 refine WC.loop (σ := Nat × Nat) [0, 2, 4, 8] (fun (i, j) => [(9, .int .i64 (i : Int)), (10, .int .i64 (j : Int))])
  (fun (i, j) w => (i ≤ j ∧ j ≤ t.length ∧ (∀ k (h : k < t.length), k < i → ltA (keyA t[k]) (keyA x) = true) ∧ (∀ k (h : k < t.length), j ≤ k → ltA (keyA t[k]) (keyA x) = false)) ∧ St w0 [] w [.box b 167 (encAc x)] [⟨w0, Old w0⟩])
  (fun (i, j) => j - i) (0, t.length) ⟨⟨Nat.zero_le _, Nat.le_refl _, fun k _ h => absurd h (Nat.not_lt_zero _), fun k h1 h2 => Zo⟩, hS⟩ ⟨rfl, rfl, trivial⟩ ?_
 clear hS
 rintro ⟨i, j⟩ g w ⟨⟨hij, hj, hlo, hhi⟩, hS⟩
 show WC _ _ _ (lf _ [(9, .int .i64 (i : Int)), (10, .int .i64 (j : Int))] _ _) _ _
 by_cases hlt : i < j
 ·obtain ⟨m, hm⟩ : ∃ m, m = (i + j) / 2 := ⟨_, rfl⟩
  have hml : m < t.length := Zo
  have hsh : shrI .u64 ((i : Int) + (j : Int)) 1 = ((m : Nat) : Int) := (shrI_nat .u64 (i + j) 1 Zd).trans (by rw [hm])
  obtain ⟨rb, ro, es, rfl, hF, hrr, hes⟩ := hA.at_ hml
  have hes : es = encAc t[m] := hes
  subst hes
  have hrr : w0.rangeAt rb (ro + m * 4) (encAc t[m]) := hrr
  have hcl := cmpA_lt t[m] x
  cases hb : ltA (keyA t[m]) (keyA x) with
  |true =>
   rw [hb] at hcl
   have hc0 : cmpA t[m] x < 0 := hcl.2 rfl
   have hlo2 : ∀ k (h : k < t.length), k < m + 1 → ltA (keyA t[k]) (keyA x) = true := fun k hk hkm => by
    by_cases e : k = m
    ·subst e; exact hb
    ·exact actO.trans (hr k m Zo hml Zo) hb
   obtain ⟨HL, rfl⟩ : ∃ h : (∀ k (h : k < t.length), k < m + 1 → ltA (keyA t[k]) (keyA x) = true), h = hlo2 := ⟨_, rfl⟩
   have hc := fun w0 => order_c t[m] x w0
   generalize cmpA t[m] x = c at *
   generalize t[m] = e at *
   clear hcl hlo
   repeat' (first | (show WL _ _ _ _ _ _ _; first | (refine WL.cvU rfl rfl rfl Zo rfl rfl rfl ?_) | refine WL.pure rfl rfl rfl rfl ?_ | refine WL.nil ?_ | refine WL.add rfl rfl rfl Zo rfl rfl rfl ?_ | (refine WL.shr rfl rfl rfl Zd rfl rfl rfl ?_; rw [hsh]) | refine WL.conv64 rfl rfl rfl Zo rfl rfl rfl ?_) | (show WC _ _ _ _ _ _; first | refine WC.seq ?_ | refine WC.region ?_ | refine WC.block ?_ | refine WC.skip ?_ | (show WC _ _ (Code.region _ (List.toArray [_, _, _, _, _, _, _, _]) true) _ _ _; refine WC.drawS hS [0,1,2,3,4,5,7] [0,1,2,3,4,5,6,7] Zk Zk ?_; clear hS; intro w hS hM) | refine WC.condT rfl (decide_eq_true Zw) ?_) | (show WD _ _ _ _ _ _ _ _ _; first | refine WD.pure rfl rfl rfl rfl rfl ?_ | refine WD.nil ?_ | refine WD.load rfl rfl (LdOk.box (by repeat (first | exact Zh | apply List.Mem.tail)) rfl) rfl rfl rfl rfl ?_ | (refine WD.load rfl rfl (LdOk.snap0 hF hrr (by repeat (first | exact Zh | apply List.Mem.tail)) rfl) rfl rfl rfl rfl ?_) | (refine WD.callF hS hM rfl rfl rfl (hc _) rfl rfl rfl rfl rfl ?_; clear hS; rintro v w rfl hS) | refine WD.index rfl rfl rfl rfl Zw rfl rfl rfl rfl rfl ?_) | refine seqQ_n ?_ | refine blkQ_n ?_)
   exact rndQ_n (m + 1, j) ⟨⟨Zo, hj, HL, hhi⟩, hS⟩ (by show j - (m + 1) < j - i; omega) ⟨vint Zo, rfl, trivial⟩ ⟨rfl, rfl, rfl, rfl, trivial⟩
  |false =>
   rw [hb] at hcl
   have hc0 : ¬ cmpA t[m] x < 0 := fun h => by have := hcl.1 h; cases this
   have hhi2 : ∀ k (h : k < t.length), m ≤ k → ltA (keyA t[k]) (keyA x) = false := fun k hk hkm => by
    by_cases e : k = m
    ·subst e; exact hb
    ·cases h2 : ltA (keyA t[k]) (keyA x) with
     |false => rfl
     |true => have := actO.trans (hr m k Zo hk Zo) h2; rw [hb] at this; cases this
   obtain ⟨HH, rfl⟩ : ∃ h : (∀ k (h : k < t.length), m ≤ k → ltA (keyA t[k]) (keyA x) = false), h = hhi2 := ⟨_, rfl⟩
   have hc := fun w0 => order_c t[m] x w0
   generalize cmpA t[m] x = c at *
   generalize t[m] = e at *
   clear hcl hhi
   repeat' (first | (show WL _ _ _ _ _ _ _; first | (refine WL.cvU rfl rfl rfl Zo rfl rfl rfl ?_) | refine WL.pure rfl rfl rfl rfl ?_ | refine WL.nil ?_ | refine WL.add rfl rfl rfl Zo rfl rfl rfl ?_ | (refine WL.shr rfl rfl rfl Zd rfl rfl rfl ?_; rw [hsh]) | refine WL.conv64 rfl rfl rfl Zo rfl rfl rfl ?_) | (show WC _ _ _ _ _ _; first | refine WC.seq ?_ | refine WC.region ?_ | refine WC.block ?_ | refine WC.skip ?_ | (show WC _ _ (Code.region _ (List.toArray [_, _, _, _, _, _, _, _]) true) _ _ _; refine WC.drawS hS [0,1,2,3,4,5,7] [0,1,2,3,4,5,6,7] Zk Zk ?_; clear hS; intro w hS hM) | refine WC.condT rfl (decide_eq_true Zw) ?_ | refine WC.condF rfl (decide_eq_false Zw) ?_) | (show WD _ _ _ _ _ _ _ _ _; first | refine WD.pure rfl rfl rfl rfl rfl ?_ | refine WD.nil ?_ | refine WD.load rfl rfl (LdOk.box (by repeat (first | exact Zh | apply List.Mem.tail)) rfl) rfl rfl rfl rfl ?_ | (refine WD.load rfl rfl (LdOk.snap0 hF hrr (by repeat (first | exact Zh | apply List.Mem.tail)) rfl) rfl rfl rfl rfl ?_) | (refine WD.callF hS hM rfl rfl rfl (hc _) rfl rfl rfl rfl rfl ?_; clear hS; rintro v w rfl hS) | refine WD.index rfl rfl rfl rfl Zw rfl rfl rfl rfl rfl ?_) | refine seqQ_n ?_ | refine blkQ_n ?_)
   exact rndQ_n (i, m) ⟨⟨Zo, Zo, hlo, HH⟩, hS⟩ (by show m - i < j - i; omega) ⟨rfl, vint Zo, trivial⟩ ⟨rfl, rfl, rfl, rfl, trivial⟩
 ·have hie : j = i := Zo
  subst hie
  by_cases hjl : j < t.length
  ·obtain ⟨rb, ro, es, rfl, hF, hrr, hes⟩ := hA.at_ hjl
   have hes : es = encAc t[j] := hes
   subst hes
   have hrr : w0.rangeAt rb (ro + j * 4) (encAc t[j]) := hrr
   have hcl := cmpA_eq t[j] x
   have hP : PlcA t x j (decide (cmpA t[j] x = 0)) := ⟨hj, hlo, fun e => ⟨hjl, hcl.1 (of_decide_eq_true e)⟩, fun e _ => ⟨hhi j hjl (Nat.le_refl _), fun h => of_decide_eq_false e (hcl.2 h)⟩⟩
   have hc := fun w0 => order_c t[j] x w0
   generalize cmpA t[j] x = c at *
   generalize t[j] = e at *
   clear hcl hhi hlo
   repeat' (first | (show WL _ _ _ _ _ _ _; first | refine WL.pure rfl rfl rfl rfl ?_ | refine WL.nil ?_) | (show WC _ _ _ _ _ _; first | refine WC.seq ?_ | refine WC.region ?_ | refine WC.exit ?_ | refine WC.ret ?_ | (show WC _ _ (Code.region _ (List.toArray [_, _, _, _, _, _, _, _, _, _, _, _, _, _, _, _]) true) _ _ _; refine WC.drawS hS [0,1,2,3,4,5,6,7,8,9,10,12,13,14,15] [0,1,2,3,4,5,6,7,8,9,10,11,12,13,14,15] Zk Zk ?_; clear hS; intro w hS hM) | refine WC.condF rfl (decide_eq_false Zw) ?_) | (show WD _ _ _ _ _ _ _ _ _; first | refine WD.pure rfl rfl rfl rfl rfl ?_ | refine WD.nil ?_ | refine WD.load rfl rfl (LdOk.box (by repeat (first | exact Zh | apply List.Mem.tail)) rfl) rfl rfl rfl rfl ?_ | (refine WD.load rfl rfl (LdOk.snap0 hF hrr (by repeat (first | exact Zh | apply List.Mem.tail)) rfl) rfl rfl rfl rfl ?_) | (refine WD.callF hS hM rfl rfl rfl (hc _) rfl rfl rfl rfl rfl ?_; clear hS; rintro v w rfl hS) | refine WD.index rfl rfl rfl rfl Zw rfl rfl rfl rfl rfl ?_ | ((fail_if_success (refine WD.wanted rfl ?_)); refine WD.guard rfl rfl rfl (fun h => ?_) (fun h => ?_) <;> (try simp only [Ya,Yb,Yc,Yd,Ye,Yf,Yg,Yh,Yi,Yj,Yk,Yl,Ym,Yn,Yo,Yp] at h) <;> (try exact Zx))) | refine seqQ_n ?_ | refine seqQ_x ?_ | refine blkQ_hit rfl ?_ | refine rndQ_x ?_)
   exact fin2r rfl rfl rfl ⟨hS.upd, j, _, rfl, hP⟩
  ·have hP : PlcA t x j false := ⟨hj, hlo, fun e => (by cases e), fun _ h => absurd h hjl⟩
   clear hhi hlo
   repeat' (first | (show WL _ _ _ _ _ _ _; first | refine WL.pure rfl rfl rfl rfl ?_ | refine WL.nil ?_) | (show WC _ _ _ _ _ _; first | refine WC.seq ?_ | refine WC.region ?_ | refine WC.exit ?_ | refine WC.ret ?_ | (show WC _ _ (Code.region _ (List.toArray [_, _, _, _, _, _, _, _, _, _, _, _, _, _, _, _]) true) _ _ _; refine WC.drawS hS [0,1,2,3,4,5,6,7,8,9,10,12,13,14,15] [0,1,2,3,4,5,6,7,8,9,10,11,12,13,14,15] Zk Zk ?_; clear hS; intro w hS hM) | refine WC.condF rfl (decide_eq_false Zw) ?_) | (show WD _ _ _ _ _ _ _ _ _; first | refine WD.pure rfl rfl rfl rfl rfl ?_ | refine WD.nil ?_ | refine WD.pass rfl rfl rfl rfl ?_ | refine WD.skip rfl rfl rfl rfl rfl (hM.ss hS) ?_ | ((fail_if_success (refine WD.wanted rfl ?_)); refine WD.guard rfl rfl rfl (fun h => ?_) (fun h => ?_) <;> (try simp only [Ya,Yb,Yc,Yd,Ye,Yf,Yg,Yh,Yi,Yj,Yk,Yl,Ym,Yn,Yo,Yp] at h) <;> (try exact Zx))) | refine seqQ_n ?_ | refine seqQ_x ?_ | refine blkQ_hit rfl ?_ | refine rndQ_x ?_)
   exact fin2r rfl rfl rfl ⟨hS.upd, j, _, rfl, hP⟩
theorem insert_c {A : Option Addr} {cap vb i : Nat} (l : List Ac) (x : Ac) {w0 : World} (hil : i ≤ l.length) (hl : l.length ≤ 1048576) (hA : i < l.length → ∃ g o, A = some ⟨g, o, none⟩) (hI : InL w0 [.own (.slice A l.length cap) 167 4 l.length (l.flatMap encAc), .own (.slice (some ⟨vb, 0, none⟩) 1 1) 167 4 1 (encAc x)]) :
  Cal Tryz.prog 163 [.slice A l.length cap, .int .i64 (i : Int), .slice (some ⟨vb, 0, none⟩) 1 1] w0 (fun v w' => ∃ A' cap', v = .slice A' (l.length + 1) cap' ∧
   MutL w0 w' [.own (.slice A l.length cap) 167 4 l.length (l.flatMap encAc), .own (.slice (some ⟨vb, 0, none⟩) 1 1) 167 4 1 (encAc x)] [.own (.slice A' (l.length + 1) cap') 167 4 (l.length + 1) ((l.take i ++ x :: l.drop i).flatMap encAc), .own (.slice (some ⟨vb, 0, none⟩) 1 1) 167 4 1 (encAc x)]) := by
 refine Cal.mkL hI Zk Tryz.func163 rfl rfl fun hS => ?_
 have hxl := flat_len encAc_len l
 have hft := flat_take encAc_len l i
 have hfd := flat_drop encAc_len l i
 have hfm : (l.take i ++ x :: l.drop i).flatMap encAc = (l.flatMap encAc).take (i * 4) ++ encAc x ++ (l.flatMap encAc).drop (i * 4) := by
  rw [hft, hfd, List.flatMap_append, List.flatMap_cons, List.append_assoc]
 rw [hfm]
 have h1l : J.one (l.flatMap encAc) = true := by
  unfold J.one
  rw [List.all_flatMap]
  exact List.all_eq_true.2 fun a _ => rfl
 clear hft hfd hfm
 have hx4 : (encAc x).length = 4 := rfl
 have hx1 : J.one (encAc x) = true := rfl
 generalize encAc x = xe at *
 generalize l.flatMap encAc = xs at *
 generalize l.length = n at *
 have hcap := (hS.own_len Zh).2.2
 by_cases hin : i = n
 ·subst hin
  rw [List.take_of_length_le Zo, List.drop_of_length_le Zo, List.append_nil]
  repeat' (first | (show WL _ _ _ _ _ _ _; first | refine WL.pure rfl rfl rfl rfl ?_ | refine WL.nil ?_ | (refine WL.sliceLow rfl rfl rfl rfl Zo rfl rfl rfl ?_) | (refine WL.app hS rfl rfl rfl rfl (RdOk.own0 (by repeat (first | exact Zh | apply List.Mem.tail))) hx4 hx1 (fun A cap => Rp) Zo rfl rfl rfl ?_; intro A3 cap3 w hS)) | (show WC _ _ _ _ _ _; first | refine WC.seq ?_ | refine WC.region ?_ | refine WC.skip ?_ | refine WC.ret ?_ | refine WC.condF rfl Zd ?_ | refine WC.condT rfl (decide_eq_true Zw) ?_) | refine seqQ_n ?_ | refine seqQ_r ?_)
  exact fin1r rfl rfl ⟨A3, cap3, rfl, hS.mutLp Pu⟩
 ·obtain ⟨g, of, rfl⟩ := hA Zo
  have hn0 : ¬ ((i : Int) = (n : Int)) := Zo
  have hxd : ∀ k, (xs.drop k).length = xs.length - k := fun k => List.length_drop
  have h1d : J.one (xs.drop (i * 4)) = true := by
   unfold J.one at h1l ⊢
   exact List.all_eq_true.2 fun v hv => List.all_eq_true.1 h1l v (List.mem_of_mem_drop hv)
  by_cases hroom : n + 1 ≤ cap
  ·obtain ⟨ys, hyl, hS⟩ := St.ext (j := n + 1) hS Zo hroom
   have hy4 : ys.length = 4 := by rw [hyl]; omega
   have hcs : (((xs ++ ys).drop (i * 4)).take (xs.drop (i * 4)).length) = xs.drop (i * 4) := by
    rw [List.drop_append_of_le_length Zo]
    exact List.take_left
   have hfin : ((xs ++ ys).take ((i + 1) * 4) ++ xs.drop (i * 4) ++ (xs ++ ys).drop ((i + 1) * 4 + (xs.drop (i * 4)).length)) = (xs ++ ys).take ((i + 1) * 4) ++ xs.drop (i * 4) := by
    rw [List.drop_of_length_le (l := xs ++ ys) (by rw [List.length_append, hxd]; omega), List.append_nil]
   have hfin2 : ((xs ++ ys).take ((i + 1) * 4) ++ xs.drop (i * 4)).take (i * 4) ++ xe ++ ((xs ++ ys).take ((i + 1) * 4) ++ xs.drop (i * 4)).drop (i * 4 + xe.length) = xs.take (i * 4) ++ xe ++ xs.drop (i * 4) := by
    have e1 : ((xs ++ ys).take ((i + 1) * 4)).length = (i + 1) * 4 := by rw [List.length_take, List.length_append]; omega
    rw [List.take_append_of_le_length Zo, List.take_take, Nat.min_eq_left Zo, List.take_append_of_le_length Zo]
    rw [List.drop_append, List.drop_of_length_le Zo, List.nil_append, e1, hx4, show i * 4 + 4 - (i + 1) * 4 = 0 by omega, List.drop_zero]
   have hmin : Nat.min (n + 1 - i) (n - i) = n - i := Nat.min_eq_right Zo
   have hmin1 : Nat.min 1 (n + 1 - i) = 1 := Nat.min_eq_left Zo
   have hdl : (xs.drop (i * 4)).length = Nat.min (n + 1 - i) (n - i) * 4 := by rw [hmin, hxd]; omega
   have hx1l : xe.length = Nat.min 1 (n + 1 - i) * 4 := by rw [hmin1]; omega
   have hne : 0 < (n + 1) * 4 := Zo
   repeat' (first | (show WL _ _ _ _ _ _ _; first | refine WL.pure rfl rfl rfl rfl ?_ | refine WL.nil ?_ | refine WL.add rfl rfl rfl Zo rfl rfl rfl ?_ | (refine WL.lowAt (j := i) (m := n - i) rfl rfl rfl rfl Zo Zo rfl rfl rfl rfl rfl ?_) | (refine WL.lowAt (j := i) (m := n + 1 - i) rfl rfl rfl rfl Zo Zo rfl rfl rfl rfl rfl ?_) | (refine WL.lowAt (j := i + 1) (m := n - i) rfl rfl rfl (vint (show (i : Int) + 1 = ((i + 1 : Nat) : Int) by omega)) Zo Zo Zo rfl rfl rfl rfl ?_) | (refine WL.highAt rfl rfl rfl (vint (show (n : Int) + 1 = ((n + 1 : Nat) : Int) by omega)) Zo rfl rfl rfl ?_) | (refine WL.capB rfl rfl rfl rfl rfl rfl ?_) | (refine WL.overl (n := n + 1) (tS := 88) (tR := 4) hS Pu rfl Tryz.func193 Zk Zk Zk Zk rfl rfl hne rfl rfl rfl rfl rfl ?_) | (refine WL.copyOwn (a := i) (dl := n + 1 - i) (m := 1) (n := n + 1) (xs := (xs ++ ys).take ((i + 1) * 4) ++ xs.drop (i * 4)) (cs := xe) hS rfl rfl rfl rfl Zo (RdOk.own0 (by repeat (first | exact Zh | apply List.Mem.tail))) hx1l hx1 Rp rfl rfl rfl ?_; clear hS; intro w hS; rw [hfin2] at hS)) | (show WC _ _ _ _ _ _; first | refine WC.seq ?_ | refine WC.region ?_ | refine WC.skip ?_ | refine WC.ret ?_ | (show WC _ _ (Code.region _ (List.toArray [_, _, _, _, _, _, _, _, _]) true) _ _ _; refine WC.drawL [.own (.slice (some ⟨g, of, none⟩) (n + 1) cap) 167 4 (n + 1) (xs ++ ys)] hS Pu [0,1,2,3,4,5,6,7] [0,1,2,3,4,5,6,7,8] Zk Zk ?_; clear hS; intro w hS hM) | refine WC.condT rfl Zd ?_ | refine WC.condF rfl Zd ?_ | refine WC.condF rfl (decide_eq_false Zw) ?_) | (show WD _ _ _ _ _ _ _ _ _; first | refine WD.pure rfl rfl rfl rfl rfl ?_ | refine WD.nil ?_ | refine WD.add rfl rfl rfl Zo rfl rfl rfl rfl ?_ | (refine WD.lowAt (j := i) (m := n + 1 - i) rfl rfl rfl rfl Zo Zo rfl rfl rfl rfl rfl rfl ?_) | (refine WD.lowAt (j := i + 1) (m := n - i) rfl rfl rfl (vint (show (i : Int) + 1 = ((i + 1 : Nat) : Int) by omega)) Zo Zo Zo rfl rfl rfl rfl rfl ?_) | (refine WD.copyOwn (a := i + 1) (dl := n - i) (m := n + 1 - i) (cs := xs.drop (i * 4)) hS Pl1 (.refl _ _) rfl rfl rfl rfl Zo (RdOk.own (o := i * 4) (by repeat (first | exact Zh | apply List.Mem.tail)) hcs) hdl h1d rfl rfl rfl rfl rfl ?_; clear hS hM; intro w hS hM; rw [hfin] at hS)) | refine seqQ_n ?_ | refine seqQ_r ?_)
   exact fin1r rfl rfl ⟨_, _, rfl, hS.mutLp Pu⟩
  ·have hmin : Nat.min (n - i) (n - i) = n - i := Nat.min_self _
   have hmin1 : Nat.min 1 (n + 1 - i) = 1 := Nat.min_eq_left Zo
   have hdl : (xs.drop (i * 4)).length = Nat.min (n - i) (n - i) * 4 := by rw [hmin, hxd]; omega
   have hx1l : xe.length = Nat.min 1 (n + 1 - i) * 4 := by rw [hmin1]; omega
   have hcs : (xs.drop (i * 4)).take (xs.drop (i * 4)).length = xs.drop (i * 4) := List.take_length
   have hcs0 : (xs.drop 0).take (xs.take (i * 4)).length = xs.take (i * 4) := by rw [List.drop_zero, List.length_take, Nat.min_eq_left Zo]
   have htl : (xs.take (i * 4)).length = i * 4 := by rw [List.length_take]; omega
   have hf1 : ∀ zs : List Value, (xs.take (i * 4) ++ zs).take (i * 4) ++ xe ++ (xs.take (i * 4) ++ zs).drop (i * 4 + xe.length) = xs.take (i * 4) ++ xe ++ zs.drop 4 := fun zs => by
    rw [List.take_append_of_le_length Zo, List.take_of_length_le Zo, List.drop_append, List.drop_of_length_le Zo, List.nil_append, htl, hx4, Nat.add_sub_cancel_left]
   have hf2 : ∀ zs : List Value, zs.length = (n + 1 - i) * 4 → (xs.take (i * 4) ++ xe ++ zs.drop 4).take ((i + 1) * 4) ++ xs.drop (i * 4) ++ (xs.take (i * 4) ++ xe ++ zs.drop 4).drop ((i + 1) * 4 + (xs.drop (i * 4)).length) = xs.take (i * 4) ++ xe ++ xs.drop (i * 4) := fun zs hz => by
    have e1 : (xs.take (i * 4) ++ xe).length = (i + 1) * 4 := by rw [List.length_append]; omega
    rw [List.take_append_of_le_length Zo, List.take_of_length_le Zo, List.drop_of_length_le (l := xs.take (i * 4) ++ xe ++ zs.drop 4) (by rw [List.length_append, e1, List.length_drop, hxd]; omega), List.append_nil]
   repeat' (first | (show WL _ _ _ _ _ _ _; first | refine WL.pure rfl rfl rfl rfl ?_ | refine WL.nil ?_ | refine WL.add rfl rfl rfl Zo rfl rfl rfl ?_ | refine WL.sub rfl rfl rfl Zo rfl rfl rfl ?_ | (refine WL.lowAt (off := of) (j := i) (m := n - i) rfl rfl rfl rfl Zo Zo rfl rfl rfl rfl rfl ?_) | (refine WL.highAt (off := of) (j := i) rfl rfl rfl rfl Zo rfl rfl rfl ?_) | (refine WL.capB rfl rfl rfl rfl rfl rfl ?_) | (refine WL.appZ (k := n + 1 - i) (m := n + 1) hS rfl rfl rfl rfl (vint (show (n : Int) + 1 - (i : Int) = ((n + 1 - i : Nat) : Int) by omega)) (RdOk.own (o := 0) (by repeat (first | exact Zh | apply List.Mem.tail)) hcs0) htl Zo Zo Zo Zo rfl rfl rfl ?_; clear hS; intro g2 cap2 zs w hzl hS; have hcap2 := (hS.own_len Zh).2.2) | (refine WL.lowAt (off := 0) (j := i) (m := n + 1 - i) rfl rfl rfl rfl Zo Zo rfl rfl rfl rfl rfl ?_) | (refine WL.copyOwn (a := i) (off := 0) (dl := n + 1 - i) (m := 1) (n := n + 1) (xs := xs.take (i * 4) ++ zs) (cs := xe) hS rfl rfl rfl rfl Zo (RdOk.own0 (by repeat (first | exact Zh | apply List.Mem.tail))) hx1l hx1 Rp rfl rfl rfl ?_; clear hS; intro w hS; rw [hf1] at hS)) | (show WC _ _ _ _ _ _; first | refine WC.seq ?_ | refine WC.region ?_ | refine WC.skip ?_ | refine WC.ret ?_ | (show WC _ _ (Code.region _ (List.toArray [_, _, _, _, _, _, _, _, _]) true) _ _ _; refine WC.drawL [.own (.slice (some ⟨g2, 0, none⟩) (n + 1) cap2) 167 4 (n + 1) (xs.take (i * 4) ++ xe ++ zs.drop 4)] hS Pu [0,1,2,3,4,5,6,7] [0,1,2,3,4,5,6,7,8] Zk Zk ?_; clear hS; intro w hS hM) | refine WC.condF rfl Zd ?_ | refine WC.condT rfl (decide_eq_true Zw) ?_ | refine WC.condF rfl (decide_eq_false Zw) ?_) | (show WD _ _ _ _ _ _ _ _ _; first | refine WD.pure rfl rfl rfl rfl rfl ?_ | refine WD.nil ?_ | refine WD.add rfl rfl rfl Zo rfl rfl rfl rfl ?_ | (refine WD.lowAt (off := of) (j := i) (m := n - i) rfl rfl rfl rfl Zo Zo rfl rfl rfl rfl rfl rfl ?_) | (refine WD.lowAt (off := 0) (j := i + 1) (m := n - i) rfl rfl rfl (vint (show (i : Int) + 1 = ((i + 1 : Nat) : Int) by omega)) Zo Zo Zo rfl rfl rfl rfl rfl ?_) | (refine WD.copyOwn (a := i + 1) (off := 0) (dl := n - i) (m := n - i) (cs := xs.drop (i * 4)) hS Pl1 (.refl _ _) rfl rfl rfl rfl Zo (RdOk.own (o := i * 4) (by repeat (first | exact Zh | apply List.Mem.tail)) hcs) hdl h1d rfl rfl rfl rfl rfl ?_; clear hS hM; intro w hS hM; rw [hf2 _ hzl] at hS)) | refine seqQ_n ?_ | refine seqQ_r ?_)
   exact fin1r rfl rfl ⟨_, _, rfl, hS.mutLp Pu⟩
theorem own_some {w0 w : World} {M : List Nat} {H : List Chunk} {Z : List Snap} {A : Option Addr} {n cap size : Nat} {e : TypeId} {xs : List Value} (hS : St w0 M w H Z) (hm : Chunk.own (.slice A n cap) e size n xs ∈ H) (h : 0 < n) : ∃ g o, A = some ⟨g, o, none⟩ := by
 rcases (show RowAt w e size _ n xs from hS.holds _ hm).2 with ⟨h1, h2⟩ | ⟨g, off, cap', cur, h1, _⟩
 ·omega
 ·simp only [Value.slice.injEq] at h1
  exact ⟨g, off, h1.1⟩
theorem set_split {α : Type} : ∀ (l : List α) (k : Nat) (x : α), k < l.length → l.take k ++ x :: l.drop (k + 1) = l.set k x
 |[], _, _, h => absurd h (Nat.not_lt_zero _)
 |a :: l, 0, x, _ => rfl
 |a :: l, k + 1, x, h => by
  rw [List.take_succ_cons, List.drop_succ_cons, List.set_cons_succ, List.cons_append, set_split l k x (by simpa using h)]
def putF (l : List Ac) (k : Nat) : List Ac := (l.take k).foldl (putG keyA ltA) []
theorem putF_succ {l : List Ac} {k : Nat} (h : k < l.length) : putF l (k + 1) = putG keyA ltA (putF l k) l[k] := by
 unfold putF
 rw [List.take_succ_eq_append_getElem h, List.foldl_append]
 rfl
theorem putF_all {l : List Ac} : putF l l.length = finalE l := by unfold putF finalE; rw [List.take_length]
theorem putF_rise (l : List Ac) (k : Nat) : RiseG keyA ltA (putF l k) := final_rise (l.take k)
theorem putF_len (l : List Ac) (k : Nat) : (putF l k).length ≤ l.length := by
 have := final_len (l.take k)
 rw [List.length_take] at this
 exact Nat.le_trans this (Nat.min_le_right _ _)
theorem final_c {A : Option Addr} {cap : Nat} (l : List Ac) {w0 : World} (hA : SlAt cAc (Old w0) w0 A l) (hl : l.length ≤ 1048000) :
  Cal Tryz.prog 112 [.slice A l.length cap] w0 (fun v w' => ∃ A' cap', v = .slice A' (finalE l).length cap' ∧ MutL w0 w' [] [.own (.slice A' (finalE l).length cap') 167 4 (finalE l).length ((finalE l).flatMap encAc)]) := by
 refine Cal.mkL (D := []) ⟨by simp, by simp, by simp⟩ Zk Tryz.func112 rfl rfl fun hS => ?_
 have hS : St w0 [] w0 [] [⟨w0, Old w0⟩] := .init w0
 repeat' (first | (show WL _ _ _ _ _ _ _; first | refine WL.pure rfl rfl rfl rfl ?_ | refine WL.nil ?_ | (refine WL.slit (t := 88) hS rfl rfl rfl rfl rfl ?_; intro w ob hS; have hS := hS.boxRow (n := 0) (size := 4) .here rfl (Nat.zero_le _))) | (show WC _ _ _ _ _ _; first | refine WC.seq ?_ | refine WC.region ?_ | refine WC.block ?_) | refine seqQ_n ?_)
 refine WC.loop (σ := Nat × Option Addr × Nat) [9, 10] (fun (k, B, c) => [(3, .slice B (putF l k).length c), (11, .int .i64 (k : Int))])
  (fun (k, B, c) w => k ≤ l.length ∧ St w0 [] w [.own (.slice B (putF l k).length c) 167 4 (putF l k).length ((putF l k).flatMap encAc)] [⟨w0, Old w0⟩])
  (fun (k, B, c) => l.length - k) (0, some ⟨ob, 0, none⟩, 0) ⟨Nat.zero_le _, hS⟩ ⟨rfl, rfl, trivial⟩ ?_
 clear hS
 rintro ⟨k, B, c⟩ g w ⟨hk, hS⟩
 show WC _ _ _ (lf _ [(3, .slice B (putF l k).length c), (11, .int .i64 (k : Int))] _ _) _ _
 have hS : St w0 [] w [.own (.slice B (putF l k).length c) 167 4 (putF l k).length ((putF l k).flatMap encAc)] [⟨w0, Old w0⟩] := hS
 by_cases hlt : k < l.length
 ·obtain ⟨rb, ro, es, rfl, hF, hrr, hes⟩ := hA.at_ hlt
  have hes : es = encAc l[k] := hes
  subst hes
  have hrr : w0.rangeAt rb (ro + k * 4) (encAc l[k]) := hrr
  have hnx := putF_succ hlt
  have hrl := putF_len l k
  have hri := putF_rise l k
  have hx4 : (encAc l[k]).length = 4 := rfl
  generalize hr : putF l k = r at *
  generalize l[k] = x at *
  repeat' (first | (show WL _ _ _ _ _ _ _; first | refine WL.pure rfl rfl rfl rfl ?_ | refine WL.nil ?_ | refine WL.load hS rfl rfl (LdOk.box (by repeat (first | exact Zh | apply List.Mem.tail)) rfl) rfl rfl rfl ?_ | refine WL.add rfl rfl rfl Zo rfl rfl rfl ?_ | (refine WL.load hS rfl rfl (LdOk.snap0 hF hrr (by repeat (first | exact Zh | apply List.Mem.tail)) rfl) rfl rfl rfl ?_) | (refine WL.calls hS rfl rfl (bsearchA_c r x (St.ownSl (enc := encAc) (hsz := encAc_len) Zd hS (by repeat (first | exact Zh | apply List.Mem.tail))) hri Zo) rfl rfl rfl ?_; rintro v w ⟨i, b, rfl, hP⟩ hS; cases b <;> first | (have htt := hP.yes rfl) | (have hput := putG_ne actO hri hP.le hP.lo (fun h => hP.no rfl h); have hiA : i < r.length → ∃ g o, B = some ⟨g, o, none⟩ := fun h => own_some hS (by repeat (first | exact Zh | apply List.Mem.tail)) Zo)) | (replace hS := hS.boxRow (n := 1) (size := 4) .here rfl Zd; refine WL.callL (D := [.own (.slice B r.length c) 167 4 r.length (r.flatMap encAc), .own (.slice (some ⟨b, 0, none⟩) 1 1) 167 4 1 (encAc x)]) hS Pu rfl rfl (fun hI => insert_c r x hP.le Zo hiA hI) rfl rfl rfl ?_; rintro v w ⟨B2, c2, rfl, hm⟩ hS; replace hS := hS _ hm; clear hm) | (refine WL.store hS rfl rfl rfl Sb rfl rfl rfl ?_; intro w hS) | (refine WL.alloc hS rfl rfl rfl rfl rfl rfl ?_; intro w b hS) | refine WL.index rfl rfl rfl rfl Zw rfl rfl rfl rfl ?_ | (refine WL.slit hS rfl rfl rfl rfl rfl ?_; intro w b hS)) | (show WC _ _ _ _ _ _; first | refine WC.seq ?_ | refine WC.region ?_ | refine WC.block ?_ | refine WC.skip ?_ | refine WC.condT rfl Zr ?_ | refine WC.condF rfl Zr ?_ | refine WC.condT rfl (decide_eq_true Zw) ?_) | refine seqQ_n ?_ | refine blkQ_n ?_)
  ·have hl2 : (r.take i ++ x :: r.drop i).length = r.length + 1 := by
    have := hP.le
    rw [List.length_append, List.length_cons, List.length_take, List.length_drop]; omega
   have hsv : Value.slice B2 (r.length + 1) c2 = .slice B2 (putF l (k + 1)).length c2 := by rw [hnx, hput, hl2]
   exact rndQ_n (k + 1, B2, c2) ⟨hlt, by rw [hnx, hput, hl2]; exact hS.droplast2 Pu⟩ (by show l.length - (k + 1) < l.length - k; omega) ⟨hsv, vint Zo, trivial⟩ ⟨rfl, rfl, trivial⟩
  ·clear htt
   obtain ⟨hil, hik⟩ := hP.yes rfl
   obtain ⟨g2, o2, rfl⟩ := own_some hS (by repeat (first | exact Zh | apply List.Mem.tail)) Zo
   have hput := (putG_eq actO hri hil hP.lo hik).trans (set_split r i x hil)
   refine WL.index (j := i) rfl rfl rfl rfl hil rfl rfl rfl rfl ?_
   refine WL.storeOwn (off := i * 4) (vs := encAc x) hS rfl rfl rfl Rp (by rw [flat_len encAc_len, hx4]; omega) rfl rfl rfl rfl ?_
   intro w hS
   rw [flat_set encAc_len x hil] at hS
   repeat' (first | (show WL _ _ _ _ _ _ _; first | refine WL.pure rfl rfl rfl rfl ?_ | refine WL.nil ?_ | refine WL.add rfl rfl rfl Zo rfl rfl rfl ?_) | (show WC _ _ _ _ _ _; first | refine WC.region ?_) | refine seqQ_n ?_ | refine blkQ_n ?_)
   have hsv : Value.slice (some ⟨g2, o2, none⟩) r.length c = .slice (some ⟨g2, o2, none⟩) (putF l (k + 1)).length c := by rw [hnx, hput, List.length_set]
   exact rndQ_n (k + 1, some ⟨g2, o2, none⟩, c) ⟨hlt, by rw [hnx, hput, List.length_set]; exact hS.droplast2 Pu⟩ (by show l.length - (k + 1) < l.length - k; omega) ⟨hsv, vint Zo, trivial⟩ ⟨rfl, rfl, trivial⟩
 ·have hkl : k = l.length := Zo
  subst hkl
  rw [putF_all] at hS ⊢
  repeat' (first | (show WL _ _ _ _ _ _ _; first | refine WL.pure rfl rfl rfl rfl ?_ | refine WL.nil ?_) | (show WC _ _ _ _ _ _; first | refine WC.seq ?_ | refine WC.region ?_ | refine WC.exit ?_ | refine WC.ret ?_ | refine WC.condF rfl (decide_eq_false Zw) ?_) | refine seqQ_n ?_ | refine seqQ_x ?_ | refine blkQ_hit rfl ?_ | refine rndQ_x ?_)
  exact fin1r rfl rfl ⟨B, c, rfl, hS.mutLp Pu⟩
open Go Go.J Go.RowKit Go.Maps Go.Sort Go.Shelf
theorem strs_enc (l : List (List UInt8)) : l.map encStr = strs l := by
 induction l with
 |nil => rfl
 |cons a l ih => simp only [List.map_cons, ih]; rfl
theorem RowAt.put {w : World} {e : TypeId} {g off n cap : Nat} {xs : List Value} (h : RowAt w e 1 (.slice (some ⟨g, off, none⟩) n cap) n xs) (ys : List (List UInt8)) (hy : ys.length = n) (k : Nat) (os : Array Obj) :
  RowAt (grow (putRow encStr (Sort.ahead w k) g off ys.toArray) os) e 1 (.slice (some ⟨g, off, none⟩) n cap) n (strs ys) ∧ Upd [g] w (grow (putRow encStr (Sort.ahead w k) g off ys.toArray) os) := by
 rcases h.2 with ⟨e0, _⟩ | ⟨g', off', cap', cur, e0, hg, hn, hm, hs, ht⟩
 ·cases e0
 ·simp only [Value.slice.injEq, Option.some.injEq, Addr.mk.injEq, true_and, and_true] at e0
  obtain ⟨⟨rfl, rfl⟩, rfl⟩ := e0
  have hlt : g < w.heap.size := (Array.getElem?_eq_some_iff.1 hg).1
  have hsz : (putRow encStr (Sort.ahead w k) g off ys.toArray).heap.size = w.heap.size := by rw [Go.Sort.size_putRow]; rfl
  have hput : (putRow encStr (Sort.ahead w k) g off ys.toArray).heap[g]? = some (.cells (putCells encStr off ys.toArray ⟨cur⟩) e (0, 0)) := by
   simp [putRow, mapBlock, Sort.ahead, Array.getElem?_modify, hg, onCells]
  have hgr : ∀ b, b < w.heap.size → (grow (putRow encStr (Sort.ahead w k) g off ys.toArray) os).heap[b]? = (putRow encStr (Sort.ahead w k) g off ys.toArray).heap[b]? := fun b hb => by
   show ((putRow encStr (Sort.ahead w k) g off ys.toArray).heap ++ os)[b]? = _
   rw [Array.getElem?_append_left (by rw [hsz]; exact hb)]
  refine ⟨⟨by rw [strs_len, hy, Nat.mul_one], .inr ⟨g, off, cap, (putCells encStr off ys.toArray ⟨cur⟩).toList, rfl, ?_, hn, hm, ?_, ?_⟩⟩, ⟨rfl, rfl, rfl, ?_, fun b hb hnb => ?_⟩⟩
  ·rw [hgr g hlt, hput]
  ·simpa [putCells] using hs
  ·apply List.ext_getElem?
   intro j
   rw [List.getElem?_take, List.getElem?_drop, Array.getElem?_toList, ← strs_enc, List.getElem?_map]
   by_cases hj : j < n
   ·have hjc : off + j < cur.length := Zo
    simp only [Nat.mul_one, if_pos hj, putCells, Array.getElem?_mapIdx]
    rw [show (Array.mk cur)[off + j]? = some cur[off + j] from by rw [show (Array.mk cur) = cur.toArray from rfl, List.getElem?_toArray]; exact List.getElem?_eq_getElem hjc]
    simp only [Option.map_some]
    rw [if_pos (by simp; omega), List.getElem?_eq_getElem Zo]
    simp [getElem!_pos, show j < ys.length by omega]
   ·rw [if_neg Zo, List.getElem?_eq_none Zo]
    rfl
  ·show w.heap.size ≤ ((putRow encStr (Sort.ahead w k) g off ys.toArray).heap ++ os).size
   rw [Array.size_append, hsz]
   exact Nat.le_add_right _ _
  ·rw [hgr b hb]
   have hne : ¬ g = b := fun e => hnb (by rw [← e]; exact List.mem_cons_self ..)
   simp [putRow, mapBlock, Sort.ahead, Array.getElem?_modify, hne]
theorem RowAt.holdsS {w : World} {e : TypeId} {g off n cap : Nat} {l : List (List UInt8)} (h : RowAt w e 1 (.slice (some ⟨g, off, none⟩) n cap) n (strs l)) (hl : l.length = n) : Holds encStr w g off l.toArray := by
 intro j hj
 have hj' : j < l.length := by simpa using hj
 rcases h.2 with ⟨e0, _⟩ | ⟨g', off', cap', cur, e0, hg, hn, hm, hs, ht⟩
 ·cases e0
 ·simp only [Value.slice.injEq, Option.some.injEq, Addr.mk.injEq, true_and, and_true] at e0
  obtain ⟨⟨rfl, rfl⟩, rfl⟩ := e0
  refine ⟨?_, by simp [World.frozen?, hg]⟩
  have hc := h.cells j (str l[j]) (by rw [strs_at hj'])
  rw [hc]
  simp [getElem!_pos, hj', encStr]
theorem sort_perm' {a b : List (List UInt8)} (h : a.Perm b) : a.mergeSort (fun x y => decide (x ≤ y)) = b.mergeSort (fun x y => decide (x ≤ y)) := mergeSort_of_perm h
theorem sort_c {A : Option Addr} {cap : Nat} {l : List (List UInt8)} {w0 : World} (hc : (Chunk.own (.slice A l.length cap) 9 1 l.length (strs l)).holds w0) (hi : inB (.own (.slice A l.length cap) 9 1 l.length (strs l)) w0) (hl : l.length ≤ 1099511627776) :
  Cal Tryz.prog 138 [.slice A l.length cap] w0 (fun v w' => v = .tuple #[] ∧ Mut w0 w' (.own (.slice A l.length cap) 9 1 l.length (strs l)) (.own (.slice A l.length cap) 9 1 l.length (strs (l.mergeSort (fun x y => decide (x ≤ y)))))) := by
 rcases l with _ | ⟨x, l⟩
 ·exact ⟨Zk, (AnyM.slices_Sort_string_none Tryz.sortL A cap w0).mono fun e w' ⟨h1, h2⟩ => ⟨_, h1, rfl, by rw [h2, List.mergeSort_nil]; exact ⟨.refl _ _, hc, fun b hb => .inl hb⟩⟩⟩
 ·generalize hll : x :: l = ll at *
  have hpos : 0 < ll.length := by rw [← hll]; simp
  have hA : ∃ g off, A = some ⟨g, off, none⟩ := by
   rcases hc.2 with ⟨e0, hz⟩ | ⟨g, off, cap', cur, e0, _⟩
   ·omega
   ·simp only [Value.slice.injEq] at e0; exact ⟨g, off, e0.1⟩
  obtain ⟨g, off, rfl⟩ := hA
  have hg : g < w0.heap.size := hi g (by simp [Chunk.fp, Value.ownBlock])
  refine ⟨Zk, (AnyM.slices_Sort_string Tryz.sortL g off cap ll w0 (RowAt.holdsS hc rfl) hg Zo).mono fun e w' ⟨h1, n, os, h2⟩ => ⟨_, h1, rfl, ?_⟩⟩
  subst h2
  have hlen : (ll.mergeSort (fun x y => decide (x ≤ y))).length = ll.length := (List.mergeSort_perm _ _).length_eq
  obtain ⟨r1, r2⟩ := RowAt.put hc (ll.mergeSort (fun x y => decide (x ≤ y))) hlen n os
  exact ⟨by simpa [Chunk.fp, Value.ownBlock] using r2, r1, fun b hb => .inl hb⟩
open Go Go.J Go.RowKit
def begB (p k : List UInt8) : Bool := decide (k.take p.length = p)
def sortL (l : List (List UInt8)) : List (List UInt8) := l.mergeSort (fun x y => decide (x ≤ y))
theorem sortL_len (l : List (List UInt8)) : (sortL l).length = l.length := (List.mergeSort_perm _ _).length_eq
def keysP (rows : Rws) (p : List UInt8) : List (List UInt8) := sortL ((rows.map Prod.fst).filter (begB p))
theorem sort_perm {a b : List (List UInt8)} (h : a.Perm b) : sortL a = sortL b := sort_perm' h
theorem mmap_fst {β γ : Type} (f : β → γ) (m : List (List UInt8 × β)) : (mmap f m).map Prod.fst = m.map Prod.fst := by unfold mmap; rw [List.map_map]; rfl
def newB (rows : Rws) (p : List UInt8) (x : List UInt8 × Chg) : Bool := !(mget rows x.1).isSome && !x.2.gone && begB p x.1
def oldB (m : Bch) (k : List UInt8) : Bool := !((mget m k).getD Chg0).gone
def bkeysP (rows : Rws) (m : Bch) (p : List UInt8) : List (List UInt8) := sortL ((keysP rows p).filter (oldB m) ++ (m.filter (newB rows p)).map Prod.fst)
open Go Go.J Go.RowKit
def Dk.list (D : Dk) (p : List UInt8) : List (List UInt8) := sortL ((D.items.map Prod.fst).filter fun q => decide (parentE q = p))
def Dk.remove (D : Dk) (p : List UInt8) : Int × Dk := if D.may p 0 ≠ 0 then (D.may p 0, D) else if D.has p = false then (11, D) else if 0 < (D.list p).length then (12, D) else if D.stepE ≠ 0 then (D.stepE, D.step) else (0, D.step.del p)
theorem list_perm (D : Dk) (p : List UInt8) : (D.list p).Perm ((D.items.map Prod.fst).filter fun q => decide (parentE q = p)) := List.mergeSort_perm _ _
theorem mem_list {D : Dk} {p q : List UInt8} : q ∈ D.list p ↔ D.has q = true ∧ parentE q = p := by
 rw [(list_perm D p).mem_iff, List.mem_filter]
 have : q ∈ D.items.map Prod.fst ↔ D.has q = true := by
  unfold Dk.has
  rw [← Option.ne_none_iff_isSome, Ne, mget_none, Classical.not_not]
 rw [this]
 simp
open Go Go.J Go.RowKit
structure Fs where
 p : List UInt8
 kind : Int
 data : List UInt8
def ndE (o : Option It) : Int × List UInt8 := match o with
 |none => (0, [])
 |some x => if x.dir then (1, []) else (2, x.data)
abbrev stgP : List UInt8 := [115, 121, 115, 47, 115, 116, 97, 103, 101]
theorem stg_ok : checkE stgP 6 = 0 ∧ deepE stgP = 2 ∧ parentE stgP = sysP ∧ stgP ≠ sysP := ⟨Zk, Zk, Zk, Zd⟩
theorem stg_nf : ¬ sysF stgP := by
 rintro (h | h | h | h) <;> exact absurd h Zd
structure DkW (D : Dk) : Prop where
 lim : D.limits = []
 nd : (D.items.map Prod.fst).Nodup
 dir : (D.at sysP).dir = true
 has : D.has sysP = true
 stg : (D.at stgP).dir = false
 ok : ∀ p, D.has p = true → checkE p 6 = 0
 up : ∀ p, D.has p = true → D.under p = true
 files : ∀ p, sysF p → (D.at p).dir = false
def Firm (D : Dk) : Prop := ∀ p x, ¬ sysF p → p ≠ stgP → D.get p = some x → x.loose = false ∧ x.anew = false ∧ (x.dir = false → x.kept = x.data)
theorem kind_get (D : Dk) (p : List UInt8) : D.kind p = (ndE (D.get p)).1 := by
 unfold Dk.kind
 rw [Dk.has_get, Dk.at_get]
 cases D.get p with
 |none => rfl
 |some x =>
  show (if x.dir then (1 : Int) else 2) = _
  unfold ndE
  dsimp only
  cases x.dir <;> rfl
theorem kind_in (o : Option It) : (ndE o).1 = 0 ∨ (ndE o).1 = 1 ∨ (ndE o).1 = 2 := by
 unfold ndE
 cases o with
 |none => exact .inl rfl
 |some x => dsimp only; cases x.dir <;> simp
theorem kind_zero {o : Option It} : (ndE o).1 = 0 ↔ o = none := by
 unfold ndE
 cases o with
 |none => simp
 |some x => dsimp only; cases x.dir <;> simp
theorem kind_one {o : Option It} : (ndE o).1 = 1 ↔ ∃ x, o = some x ∧ x.dir = true := by
 unfold ndE
 cases o with
 |none => simp
 |some x => dsimp only; cases h : x.dir <;> simp [h]
theorem nd_file {x : It} (h : x.dir = false) : ndE (some x) = (2, x.data) := by unfold ndE; dsimp only; rw [h]; rfl
theorem nd_dir {x : It} (h : x.dir = true) : ndE (some x) = (1, []) := by unfold ndE; dsimp only; rw [h]; rfl
theorem dir_kind {D : Dk} {p : List UInt8} : (D.at p).dir = true ↔ (ndE (D.get p)).1 = 1 := by
 rw [kind_one, Dk.at_get]
 cases D.get p with
 |none => simp [It0]
 |some x => simp
theorem has_kind {D : Dk} {p : List UInt8} : D.has p = true ↔ (ndE (D.get p)).1 ≠ 0 := by
 rw [Ne, kind_zero, Dk.has_get]
 cases D.get p <;> simp
theorem under_kind {D : Dk} {p : List UInt8} : D.under p = true ↔ deepE p = 1 ∨ (ndE (D.get (parentE p))).1 = 1 := by
 unfold Dk.under
 by_cases h : deepE p = 1
 ·rw [if_pos h]; simp [h]
 ·rw [if_neg h]; simp only [h, false_or]; exact dir_kind
structure Stop (D D' : Dk) : Prop where
 down : D'.down = true
 w : DkW D'
 get : ∀ y, D'.get y = D.get y
structure OpIs (D : Dk) (r : Int × Dk) (g : List UInt8 → Option It) : Prop where
 or_ : (r.1 = 14 ∧ Stop D r.2) ∨ (r.1 = 0 ∧ r.2.down = false ∧ DkW r.2 ∧ ∀ y, r.2.get y = g y)
 calm : D.armed < 0 → r.1 = 0 ∧ r.2.armed < 0
section
variable {D D' : Dk} {p : List UInt8}
theorem DkW.same (h : DkW D) (hl : D'.limits = D.limits) (hi : D'.items = D.items) : DkW D' := by
 have hg : ∀ y, D'.at y = D.at y := fun y => by unfold Dk.at; rw [hi]
 have hh : ∀ y, D'.has y = D.has y := fun y => by unfold Dk.has; rw [hi]
 refine ⟨hl.trans h.lim, by rw [hi]; exact h.nd, by rw [hg]; exact h.dir, by rw [hh]; exact h.has, by rw [hg]; exact h.stg, fun p hp => h.ok p (by rw [← hh]; exact hp), fun p hp => ?_, fun p hp => by rw [hg]; exact h.files p hp⟩
 have := h.up p (by rw [← hh]; exact hp)
 unfold Dk.under at this ⊢
 rw [hg]; exact this
theorem DkW.step (h : DkW D) : DkW D.step := h.same D.step_limits D.step_items
theorem step_down (h : D.armed = 0) : D.step.down = true := by unfold Dk.step; rw [if_pos h]
theorem step_up (h : ¬ D.armed = 0) : D.step.down = D.down := by unfold Dk.step; rw [if_neg h]
theorem step_calm (h : D.armed < 0) : D.step.armed < 0 := by
 unfold Dk.step
 rw [if_neg Zo]
 show (if 0 < D.armed then _ else D.armed) < 0
 rw [if_neg Zo]; exact h
theorem DkW.stop (h : DkW D) (ha : D.armed = 0) : Stop D D.step := ⟨step_down ha, h.step, fun y => D.get_step y⟩
theorem DkW.put (h : DkW D) {x : It} (hg : ∀ y, D'.get y = if y = p then some x else D.get y) (hl : D'.limits = D.limits) (hn : (D'.items.map Prod.fst).Nodup) (hs : p ≠ sysP) (hst : p = stgP → x.dir = false) (hsf : sysF p → x.dir = false)
  (hok : checkE p 6 = 0) (hu : D.under p = true) (hd : (D.at p).dir = true → x.dir = true) : DkW D' := by
 have hat : ∀ y, y ≠ p → D'.at y = D.at y := fun y hy => by rw [Dk.at_get, Dk.at_get, hg, if_neg hy]
 have hap : D'.at p = x := by rw [Dk.at_get, hg, if_pos rfl]; rfl
 have hhas : ∀ y, y ≠ p → D'.has y = D.has y := fun y hy => by rw [Dk.has_get, Dk.has_get, hg, if_neg hy]
 have hdir : ∀ y, (D.at y).dir = true → (D'.at y).dir = true := fun y hy => by
  by_cases e : y = p
  ·subst e; rw [hap]; exact hd hy
  ·rw [hat y e]; exact hy
 have hund : ∀ y, D.under y = true → D'.under y = true := fun y hy => by
  unfold Dk.under at hy ⊢
  split
  ·rfl
  ·rename_i e
   rw [if_neg e] at hy
   exact hdir _ hy
 refine ⟨hl.trans h.lim, hn, hdir _ h.dir, ?_, ?_, fun y hy => ?_, fun y hy => ?_, fun y hy => ?_⟩
 ·rw [hhas _ (Ne.symm hs)]; exact h.has
 ·by_cases e : stgP = p
  ·rw [e, hap]; exact hst e.symm
  ·rw [hat _ e]; exact h.stg
 ·by_cases e : y = p
  ·rw [e]; exact hok
  ·rw [hhas y e] at hy; exact h.ok y hy
 ·by_cases e : y = p
  ·rw [e]; exact hund _ hu
  ·rw [hhas y e] at hy; exact hund _ (h.up y hy)
 ·by_cases e : y = p
  ·rw [e, hap]; exact hsf (e ▸ hy)
  ·rw [hat y e]; exact h.files y hy
theorem DkW.del (h : DkW D) (hg : ∀ y, D'.get y = if y = p then none else D.get y) (hl : D'.limits = D.limits) (hn : (D'.items.map Prod.fst).Nodup) (hs : p ≠ sysP)
  (hc : ∀ y, D.has y = true → deepE y ≠ 1 → parentE y ≠ p) : DkW D' := by
 have hat : ∀ y, y ≠ p → D'.at y = D.at y := fun y hy => by rw [Dk.at_get, Dk.at_get, hg, if_neg hy]
 have hhas : ∀ y, D'.has y = true → y ≠ p ∧ D.has y = true := fun y hy => by
  rw [Dk.has_get, hg] at hy
  by_cases e : y = p
  ·rw [if_pos e] at hy; cases hy
  ·rw [if_neg e] at hy; exact ⟨e, hy⟩
 refine ⟨hl.trans h.lim, hn, by rw [hat _ (Ne.symm hs)]; exact h.dir, ?_, ?_, fun y hy => h.ok y (hhas y hy).2, fun y hy => ?_, fun y hy => ?_⟩
 ·rw [Dk.has_get, hg, if_neg (Ne.symm hs)]; exact h.has
 ·by_cases e : stgP = p
  ·rw [Dk.at_get, hg, if_pos e]; rfl
  ·rw [hat _ e]; exact h.stg
 ·obtain ⟨_, h2⟩ := hhas y hy
  have h3 := h.up y h2
  unfold Dk.under at h3 ⊢
  split
  ·rfl
  ·rename_i e
   rw [if_neg e] at h3
   rw [hat _ (hc y h2 e)]
   exact h3
 ·by_cases e : y = p
  ·rw [Dk.at_get, hg, if_pos e]; rfl
  ·rw [hat y e]; exact h.files y hy
theorem may_ok {n : Int} (hu : D.down = false) (hok : checkE p 6 = 0) (hn : n < deepE p) : D.may p n = 0 := by
 unfold Dk.may
 rw [hu, if_neg Zd, if_neg (fun hh => hh hok), if_neg Zo]
theorem deep_pos (hok : checkE p 6 = 0) : 0 < deepE p := by
 unfold deepE
 have : p ≠ [] := fun e => by rw [e, checkE_empty] at hok; exact absurd hok Zd
 rw [if_neg this]
 omega
theorem DkW.mkdir (h : DkW D) (hu : D.down = false) (hok : checkE p 6 = 0) (hd : D.under p = true) (hk : (ndE (D.get p)).1 ≠ 2) (hp : p ≠ stgP) (hf : ¬ sysF p) :
  OpIs D (D.mkdir p) fun y => if y = p then some { It0 with dir := true } else D.get y := by
 have hm := may_ok (n := 0) hu hok (deep_pos hok)
 have hnf : ¬ (D.has p = true ∧ (D.at p).dir = false) := fun ⟨h1, h2⟩ => by
  have h3 := has_kind.1 h1
  have h4 : ¬ (ndE (D.get p)).1 = 1 := fun e => by rw [dir_kind.2 e] at h2; cases h2
  rcases kind_in (D.get p) with h | h | h
  ·exact h3 h
  ·exact h4 h
  ·exact hk h
 unfold Dk.mkdir
 rw [hm, if_neg (fun hh => hh rfl), hd, if_neg Zd, if_neg hnf]
 by_cases ha : D.armed = 0
 ·rw [stepE0 ha, if_pos Zd]
  exact ⟨.inl ⟨rfl, h.stop ha⟩, fun hc => Zo⟩
 ·rw [stepE1 ha, if_neg (fun hh => hh rfl)]
  have hg : ∀ y, Dk.get { D.step with items := mset D.step.items p { It0 with dir := true } } y = if y = p then some { It0 with dir := true } else D.get y := fun y => by
   rw [Dk.get_put, Dk.get_step]
  by_cases hs : p = sysP
  ·subst hs
   refine ⟨.inr ⟨rfl, ?_, ?_, hg⟩, fun hc => ⟨rfl, step_calm hc⟩⟩
   ·show D.step.down = false; rw [step_up ha]; exact hu
   ·have hat : ∀ y, (D.at y).dir = (Dk.at { D.step with items := mset D.step.items sysP { It0 with dir := true } } y).dir := fun y => by
     rw [Dk.at_get, Dk.at_get, hg]
     by_cases e : y = sysP
     ·rw [if_pos e, e]; exact h.dir
     ·rw [if_neg e]
    have hhas : ∀ y, Dk.has { D.step with items := mset D.step.items sysP { It0 with dir := true } } y = D.has y := fun y => by
     rw [Dk.has_get, Dk.has_get, hg]
     by_cases e : y = sysP
     ·rw [if_pos e, e]; have := h.has; rw [Dk.has_get] at this; rw [this]; rfl
     ·rw [if_neg e]
    refine ⟨by show D.step.limits = []; rw [Dk.step_limits]; exact h.lim, mset_nodup (by rw [Dk.step_items]; exact h.nd) _ _, by rw [← hat]; exact h.dir, by rw [hhas]; exact h.has, by rw [← hat]; exact h.stg, fun y hy => h.ok y (by rw [← hhas]; exact hy), fun y hy => ?_, fun y hy => by rw [← hat]; exact h.files y hy⟩
    have := h.up y (by rw [← hhas]; exact hy)
    unfold Dk.under at this ⊢
    rw [← hat]; exact this
  ·refine ⟨.inr ⟨rfl, ?_, ?_, hg⟩, fun hc => ⟨rfl, step_calm hc⟩⟩
   ·show D.step.down = false; rw [step_up ha]; exact hu
   ·exact h.put hg (by show D.step.limits = _; rw [Dk.step_limits]) (mset_nodup (by rw [Dk.step_items]; exact h.nd) _ _) hs (fun e => absurd e hp) (fun e => absurd e hf) hok hd (fun _ => rfl)
theorem DkW.remove (h : DkW D) (hu : D.down = false) (hok : checkE p 6 = 0) (hs : p ≠ sysP) (hh : D.has p = true) (hc : ∀ y, D.has y = true → parentE y ≠ p) :
  OpIs D (D.remove p) fun y => if y = p then none else D.get y := by
 have hm := may_ok (n := 0) hu hok (deep_pos hok)
 have hl : D.list p = [] := List.eq_nil_iff_forall_not_mem.2 fun q hq => by
  obtain ⟨h1, h2⟩ := mem_list.1 hq
  exact hc q h1 h2
 unfold Dk.remove
 rw [hm, if_neg (fun hh => hh rfl), hh, if_neg Zd, hl, if_neg Zd]
 by_cases ha : D.armed = 0
 ·rw [stepE0 ha, if_pos Zd]
  exact ⟨.inl ⟨rfl, h.stop ha⟩, fun hc => Zo⟩
 ·rw [stepE1 ha, if_neg (fun hh => hh rfl)]
  have hnd : (D.step.items.map Prod.fst).Nodup := by rw [Dk.step_items]; exact h.nd
  have hg : ∀ y, (D.step.del p).get y = if y = p then none else D.get y := fun y => by rw [Dk.get_del _ hnd, Dk.get_step]
  refine ⟨.inr ⟨rfl, ?_, ?_, hg⟩, fun hc => ⟨rfl, step_calm hc⟩⟩
  ·show D.step.down = false; rw [step_up ha]; exact hu
  ·exact h.del hg (by show D.step.limits = _; rw [Dk.step_limits]) (mdel_nodup hnd _) hs fun y hy _ => hc y hy
theorem sys_dir (h : DkW D) : D.under stgP = true := by
 obtain ⟨_, h2, h3, _⟩ := stg_ok
 unfold Dk.under
 rw [if_neg (by rw [h2]; decide), h3, h.dir]
theorem DkW.writeS (h : DkW D) (hu : D.down = false) (s : List UInt8) :
  OpIs D (D.write stgP s) fun y => if y = stgP then some { D.at stgP with data := s, loose := true, anew := true, stamp := IntKind.i64.wrap (D.stamps + 1) } else D.get y := by
 obtain ⟨h1, h2, h3, h4⟩ := stg_ok
 have hm := may_ok (n := 1) hu h1 (by rw [h2]; decide)
 unfold Dk.write
 rw [hm, if_neg (fun hh => hh rfl), sys_dir h, if_neg Zd, h.stg, if_neg Zd]
 by_cases ha : D.armed = 0
 ·rw [stepE0 ha, if_pos Zd]
  exact ⟨.inl ⟨rfl, h.stop ha⟩, fun hc => Zo⟩
 ·rw [stepE1 ha, if_neg (fun hh => hh rfl)]
  have hg : ∀ y, (D.step.set stgP { D.at stgP with data := s, loose := true, anew := true }).get y = if y = stgP then some { D.at stgP with data := s, loose := true, anew := true, stamp := IntKind.i64.wrap (D.stamps + 1) } else D.get y := fun y => by
   rw [Dk.get_set, step_stamps, Dk.get_step]
  refine ⟨.inr ⟨rfl, ?_, ?_, hg⟩, fun hc => ⟨rfl, step_calm hc⟩⟩
  ·show D.step.down = false; rw [step_up ha]; exact hu
  ·exact h.put hg (by show D.step.limits = _; rw [Dk.step_limits]) (mset_nodup (by rw [Dk.step_items]; exact h.nd) _ _) h4 (fun _ => h.stg) (fun e => absurd e stg_nf) h1 (sys_dir h) (fun e => by rw [h.stg] at e; cases e)
theorem file_ok {p : List UInt8} (hu : D.down = false) (h1 : checkE p 6 = 0) (h2 : 1 < deepE p) (hh : D.has p = true) (hd : (D.at p).dir = false) : D.file p = 0 := by
 unfold Dk.file
 rw [may_ok hu h1 h2, if_neg (fun hh => hh rfl), if_pos hh, hd, if_neg Zd]
theorem DkW.syncS (h : DkW D) (hu : D.down = false) (hh : D.has stgP = true) :
  OpIs D (D.sync stgP) fun y => if y = stgP then some { D.at stgP with kept := (D.at stgP).data, loose := false, anew := false } else D.get y := by
 obtain ⟨h1, h2, h3, h4⟩ := stg_ok
 unfold Dk.sync
 rw [file_ok hu h1 (by rw [h2]; decide) hh h.stg, if_neg (fun hh => hh rfl)]
 by_cases ha : D.armed = 0
 ·rw [stepE0 ha, if_pos Zd]
  exact ⟨.inl ⟨rfl, h.stop ha⟩, fun hc => Zo⟩
 ·rw [stepE1 ha, if_neg (fun hh => hh rfl), Dk.step_at]
  have hg : ∀ y, Dk.get { D.step with items := mset D.step.items stgP { D.at stgP with kept := (D.at stgP).data, loose := false, anew := false } } y = if y = stgP then some { D.at stgP with kept := (D.at stgP).data, loose := false, anew := false } else D.get y := fun y => by
   rw [Dk.get_put, Dk.get_step]
  refine ⟨.inr ⟨rfl, ?_, ?_, hg⟩, fun hc => ⟨rfl, step_calm hc⟩⟩
  ·show D.step.down = false; rw [step_up ha]; exact hu
  ·exact h.put hg (by show D.step.limits = _; rw [Dk.step_limits]) (mset_nodup (by rw [Dk.step_items]; exact h.nd) _ _) h4 (fun _ => h.stg) (fun e => absurd e stg_nf) h1 (sys_dir h) (fun e => by rw [h.stg] at e; cases e)
theorem DkW.renameS (h : DkW D) (hu : D.down = false) (hh : D.has stgP = true) (hok : checkE p 6 = 0) (hd : D.under p = true) (h2 : 1 < deepE p) (hk : (ndE (D.get p)).1 ≠ 1) (hs : p ≠ sysP) (hst : p ≠ stgP) :
  OpIs D (D.rename stgP p) fun y => if y = p then some { D.at stgP with stamp := IntKind.i64.wrap (D.stamps + 1) } else if y = stgP then none else D.get y := by
 obtain ⟨g1, g2, g3, g4⟩ := stg_ok
 have hm1 := may_ok (n := 1) hu g1 (by rw [g2]; decide)
 have hm2 := may_ok (n := 1) hu hok h2
 have hpd : (D.at p).dir = false := by
  cases e : (D.at p).dir with
  |false => rfl
  |true => exact absurd (dir_kind.1 e) hk
 unfold Dk.rename
 rw [hm1, if_neg (fun hh => hh rfl), hm2, if_neg (fun hh => hh rfl), hh, hd, if_neg (by simp), h.stg, hpd, if_neg (by simp)]
 by_cases ha : D.armed = 0
 ·rw [stepE0 ha, if_pos Zd]
  exact ⟨.inl ⟨rfl, h.stop ha⟩, fun hc => Zo⟩
 ·rw [stepE1 ha, if_neg (fun hh => hh rfl)]
  have hnd : (D.step.items.map Prod.fst).Nodup := by rw [Dk.step_items]; exact h.nd
  have hgd : ∀ y, (D.step.del stgP).get y = if y = stgP then none else D.get y := fun y => by rw [Dk.get_del _ hnd, Dk.get_step]
  have hw1 : DkW (D.step.del stgP) := h.del hgd (by show D.step.limits = _; rw [Dk.step_limits]) (mdel_nodup hnd _) g4 fun y hy hde e => by
   have := h.up y hy
   unfold Dk.under at this
   rw [if_neg hde, e, h.stg] at this
   cases this
  have hpar : parentE p ≠ stgP := fun e => by
   unfold Dk.under at hd
   rw [if_neg Zo, e, h.stg] at hd
   cases hd
  have hud : (D.step.del stgP).under p = true := by
   unfold Dk.under at hd ⊢
   split
   ·rfl
   ·rename_i e
    rw [if_neg e] at hd
    rw [Dk.at_get, hgd, if_neg hpar]
    exact hd
  have hg : ∀ y, ((D.step.del stgP).set p (D.at stgP)).get y = if y = p then some { D.at stgP with stamp := IntKind.i64.wrap (D.stamps + 1) } else if y = stgP then none else D.get y := fun y => by
   rw [Dk.get_set, hgd]
   show (if y = p then some { D.at stgP with stamp := IntKind.i64.wrap (D.step.stamps + 1) } else _) = _
   rw [step_stamps]
  refine ⟨.inr ⟨rfl, ?_, ?_, hg⟩, fun hc => ⟨rfl, step_calm hc⟩⟩
  ·show D.step.down = false; rw [step_up ha]; exact hu
  ·refine hw1.put (p := p) (x := { D.at stgP with stamp := IntKind.i64.wrap (D.stamps + 1) }) (fun y => by rw [hg, hgd]) rfl (mset_nodup (mdel_nodup hnd _) _ _) hs (fun e => absurd e hst) (fun _ => h.stg) hok hud (fun e => ?_)
   rw [Dk.at_get, hgd, if_neg hst] at e
   have e : (D.at p).dir = true := e
   rw [hpd] at e; cases e
def Dk.layF (D : Dk) (p s : List UInt8) : Int × Dk :=
 if (D.read p).2 = 0 ∧ (D.read p).1 = s then (0, D)
 else if (D.write stgP s).1 ≠ 0 then D.write stgP s
 else if ((D.write stgP s).2.sync stgP).1 ≠ 0 then (D.write stgP s).2.sync stgP
 else ((D.write stgP s).2.sync stgP).2.rename stgP p
structure StepIs (D : Dk) (r : Int × Dk) (p : List UInt8) (n : Int × List UInt8) : Prop where
 or_ : (r.1 = 14 ∧ r.2.down = true ∧ DkW r.2 ∧ ∀ y, y ≠ stgP → r.2.get y = D.get y) ∨ (r.1 = 0 ∧ r.2.down = false ∧ DkW r.2 ∧ ndE (r.2.get p) = n ∧ ∀ y, y ≠ p → y ≠ stgP → r.2.get y = D.get y)
 calm : D.armed < 0 → r.1 = 0 ∧ r.2.armed < 0
 firm : Firm D → Firm r.2
theorem Firm.same (h : Firm D) (hg : ∀ y, y ≠ stgP → D'.get y = D.get y) : Firm D' := fun q x h1 h2 h3 => h q x h1 h2 (by rw [← hg q h2]; exact h3)
theorem read_file {p s : List UInt8} (hu : D.down = false) : ((D.read p).2 = 0 ∧ (D.read p).1 = s) ↔ ndE (D.get p) = (2, s) := by
 unfold Dk.read
 rw [hu, if_neg Zd, Dk.has_get, Dk.at_get]
 cases D.get p with
 |none => simp [ndE]
 |some x =>
  unfold ndE
  dsimp only [Option.isSome, Option.getD]
  rw [if_neg Zd]
  obtain ⟨dir, data, kept, loose, anew, stamp⟩ := x
  cases dir <;> simp
theorem DkW.layF (h : DkW D) (hu : D.down = false) (s : List UInt8) (hok : checkE p 6 = 0) (hd : D.under p = true) (h2 : 1 < deepE p) (hk : (ndE (D.get p)).1 ≠ 1) (hs : p ≠ sysP) (hst : p ≠ stgP) : StepIs D (D.layF p s) p (2, s) := by
 obtain ⟨g1, g2, g3, g4⟩ := stg_ok
 by_cases hr : (D.read p).2 = 0 ∧ (D.read p).1 = s
 ·unfold Dk.layF
  rw [if_pos hr]
  exact ⟨.inr ⟨rfl, hu, h, (read_file hu).1 hr, fun y _ _ => rfl⟩, fun hc => ⟨rfl, hc⟩, id⟩
 unfold Dk.layF
 rw [if_neg hr]
 have w1 := h.writeS hu s
 rcases w1.or_ with ⟨e1, st⟩ | ⟨e1, u1, hw1, hg1⟩
 ·rw [e1, if_pos Zd]
  exact ⟨.inl ⟨e1, st.down, st.w, fun y _ => st.get y⟩, fun hc => by have := (w1.calm hc).1; omega, fun hf => hf.same fun y _ => st.get y⟩
 rw [e1, if_neg (fun hh => hh rfl)]
 have c1 : D.armed < 0 → (D.write stgP s).2.armed < 0 := fun hc => (w1.calm hc).2
 generalize (D.write stgP s).2 = D1 at *
 have hh1 : D1.has stgP = true := by rw [Dk.has_get, hg1, if_pos rfl]; rfl
 have ha1 : D1.at stgP = { D.at stgP with data := s, loose := true, anew := true, stamp := IntKind.i64.wrap (D.stamps + 1) } := by rw [Dk.at_get, hg1, if_pos rfl]; rfl
 have w2 := hw1.syncS u1 hh1
 have k1 : ∀ y, y ≠ stgP → D1.get y = D.get y := fun y hy => by rw [hg1, if_neg hy]
 rcases w2.or_ with ⟨e2, st⟩ | ⟨e2, u2, hw2, hg2⟩
 ·rw [e2, if_pos Zd]
  exact ⟨.inl ⟨e2, st.down, st.w, fun y hy => (st.get y).trans (k1 y hy)⟩, fun hc => by have := (w2.calm (c1 hc)).1; omega, fun hf => hf.same fun y hy => (st.get y).trans (k1 y hy)⟩
 rw [e2, if_neg (fun hh => hh rfl)]
 have c2 : D.armed < 0 → (D1.sync stgP).2.armed < 0 := fun hc => (w2.calm (c1 hc)).2
 generalize (D1.sync stgP).2 = D2 at *
 have hh2 : D2.has stgP = true := by rw [Dk.has_get, hg2, if_pos rfl]; rfl
 have k2 : ∀ y, y ≠ stgP → D2.get y = D.get y := fun y hy => by rw [hg2, if_neg hy, k1 y hy]
 have ha2 : D2.at stgP = { D.at stgP with data := s, kept := s, loose := false, anew := false, stamp := IntKind.i64.wrap (D.stamps + 1) } := by rw [Dk.at_get, hg2, if_pos rfl, ha1]; rfl
 have hd2 : D2.under p = true := by
  have hpar : deepE p = 1 ∨ parentE p ≠ stgP := .inr fun e => by
   unfold Dk.under at hd
   rw [if_neg Zo, e, h.stg] at hd
   cases hd
  rcases hpar with e | e
  ·omega
  ·rw [under_kind] at hd ⊢
   rw [k2 _ e]; exact hd
 have w3 := hw2.renameS u2 hh2 hok hd2 h2 (by rw [k2 _ hst]; exact hk) hs hst
 rcases w3.or_ with ⟨e3, st⟩ | ⟨e3, u3, hw3, hg3⟩
 ·exact ⟨.inl ⟨e3, st.down, st.w, fun y hy => (st.get y).trans (k2 y hy)⟩, fun hc => by have := (w3.calm (c2 hc)).1; omega, fun hf => hf.same fun y hy => (st.get y).trans (k2 y hy)⟩
 ·have hp3 : ∀ y, y ≠ p → y ≠ stgP → (D2.rename stgP p).2.get y = D.get y := fun y h1 h2 => by rw [hg3, if_neg h1, if_neg h2, k2 y h2]
  refine ⟨.inr ⟨e3, u3, hw3, ?_, hp3⟩, fun hc => w3.calm (c2 hc), fun hf q x n1 n2 hq => ?_⟩
  ·rw [hg3, if_pos rfl, ha2]
   exact nd_file h.stg
  ·by_cases e : q = p
   ·rw [e, hg3, if_pos rfl, ha2] at hq
    have hq := Option.some.inj hq
    subst hq
    exact ⟨rfl, rfl, fun _ => rfl⟩
   ·exact hf q x n1 n2 (by rw [← hp3 q e n2]; exact hq)
end
open Go Go.J Go.RowKit
def rmS (s : Int × Dk) (a : Fs) : Int × Dk := if s.1 ≠ 0 then s else if s.2.kind a.p ≠ 0 ∧ s.2.kind a.p ≠ a.kind then s.2.remove a.p else s
def layS (s : Int × Dk) (a : Fs) : Int × Dk := if s.1 ≠ 0 then s else if a.kind = 1 then (if s.2.kind a.p ≠ 1 then s.2.mkdir a.p else s) else if a.kind = 2 then s.2.layF a.p a.data else s
def rmF (D : Dk) (F : List Fs) : Int × Dk := F.reverse.foldl rmS (0, D)
def runF (D : Dk) (F : List Fs) : Int × Dk := F.foldl layS (rmF D F)
def newN (D0 : Dk) (F : List Fs) (q : List UInt8) : Int × List UInt8 := match F.find? fun a => decide (a.p = q) with
 |some a => (a.kind, a.data)
 |none => ndE (D0.get q)
structure Plan (D0 : Dk) (F : List Fs) : Prop where
 w : DkW D0
 nd : (F.map Fs.p).Nodup
 ok : ∀ a ∈ F, checkE a.p 6 = 0 ∧ 1 < deepE a.p ∧ a.p ≠ stgP ∧ ¬ sysF a.p
 kinds : ∀ a ∈ F, (a.kind = 0 ∨ a.kind = 1 ∨ a.kind = 2) ∧ (a.kind ≠ 2 → a.data = [])
 ord : F.Pairwise fun a b => parentE a.p ≠ b.p
 up : ∀ q, q ≠ stgP → ¬ sysF q → (newN D0 F q).1 ≠ 0 → deepE q ≠ 1 → (newN D0 F (parentE q)).1 = 1
structure Betw (D0 : Dk) (F : List Fs) (D : Dk) : Prop where
 w : DkW D
 node : ∀ q, q ≠ stgP → ¬ sysF q → ndE (D.get q) = ndE (D0.get q) ∨ ndE (D.get q) = newN D0 F q ∨ (ndE (D.get q) = (0, []) ∧ (ndE (D0.get q)).1 ≠ (newN D0 F q).1)
theorem parent_ne {p : List UInt8} (h : p ≠ []) : parentE p ≠ p := fun e => by
 have := congrArg List.length e
 unfold parentE at this
 have h1 := lastE_ge p
 have h2 : 0 < p.length := List.length_pos_iff.2 h
 rw [List.length_take] at this
 omega
theorem ok_ne {p : List UInt8} (h : checkE p 6 = 0) : p ≠ [] := fun e => by rw [e, checkE_empty] at h; exact absurd h Zd
theorem parent_deep {y : List UInt8} (h : checkE y 6 = 0) (e : deepE y = 1) : parentE y = [] := by
 obtain ⟨p1, p2, _⟩ := parts y ((checkE_iff y 6).1 h).2
 have hb : baseE y ≠ [] := fun e => by rw [e] at p2; simp [nameB] at p2
 rcases Classical.em (parentE y = []) with h0 | h0
 ·exact h0
 ·have h1 := deep_join h0 hb
  rw [p1, e] at h1
  have h2 : ∀ q : List UInt8, q ≠ [] → 1 ≤ deepE q := fun q hq => by unfold deepE; rw [if_neg hq]; omega
  have := h2 _ h0
  have := h2 _ hb
  omega
section
variable {D0 D : Dk} {F : List Fs}
theorem newN_of (hn : (F.map Fs.p).Nodup) {a : Fs} (ha : a ∈ F) : newN D0 F a.p = (a.kind, a.data) := by
 unfold newN
 have : F.find? (fun b => decide (b.p = a.p)) = some a := by
  induction F with
  |nil => cases ha
  |cons b F ih =>
   rw [List.map_cons, List.nodup_cons] at hn
   rw [List.find?_cons]
   rcases List.mem_cons.1 ha with rfl | ha
   ·simp
   ·have : b.p ≠ a.p := fun e => hn.1 (by rw [e]; exact List.mem_map_of_mem ha)
    simp only [this, decide_false]
    exact ih hn.2 ha
 rw [this]
theorem newN_no {q : List UInt8} (h : ∀ a ∈ F, a.p ≠ q) : newN D0 F q = ndE (D0.get q) := by
 unfold newN
 have : F.find? (fun b => decide (b.p = q)) = none := List.find?_eq_none.2 fun a ha => by simp [h a ha]
 rw [this]
theorem newN_cases (D0 : Dk) (F : List Fs) (q : List UInt8) : (∃ a ∈ F, a.p = q ∧ newN D0 F q = (a.kind, a.data)) ∨ ((∀ a ∈ F, a.p ≠ q) ∧ newN D0 F q = ndE (D0.get q)) := by
 unfold newN
 cases h : F.find? fun a => decide (a.p = q) with
 |some a =>
  have h1 := List.find?_some h
  exact .inl ⟨a, List.mem_of_find?_eq_some h, by simpa using h1, rfl⟩
 |none =>
  have h1 := List.find?_eq_none.1 h
  exact .inr ⟨fun a ha e => by simpa [e] using h1 a ha, rfl⟩
theorem Betw.refl (h : Plan D0 F) : Betw D0 F D0 := ⟨h.w, fun _ _ _ => .inl rfl⟩
theorem Betw.move (h : Betw D0 F D) {D' : Dk} (hw : DkW D') {p : List UInt8} (hp : ¬ sysF p) (hg : ∀ y, y ≠ p → y ≠ stgP → D'.get y = D.get y) (hn : ndE (D'.get p) = newN D0 F p ∨ ndE (D'.get p) = ndE (D.get p) ∨ (ndE (D'.get p) = (0, []) ∧ (ndE (D0.get p)).1 ≠ (newN D0 F p).1)) : Betw D0 F D' := by
 refine ⟨hw, fun q h1 h2 => ?_⟩
 ·by_cases e : q = p
  ·subst e
   rcases hn with hn | hn | hn
   ·exact .inr (.inl hn)
   ·rw [hn]; exact h.node q h1 h2
   ·exact .inr (.inr hn)
  ·rw [hg q e h1]; exact h.node q h1 h2
theorem Betw.same (h : Betw D0 F D) {D' : Dk} (hw : DkW D') (hg : ∀ y, y ≠ stgP → D'.get y = D.get y) : Betw D0 F D' :=
 ⟨hw, fun q h1 h2 => by rw [hg q h1]; exact h.node q h1 h2⟩
theorem Betw.kind (h : Betw D0 F D) {q : List UInt8} (h1 : q ≠ stgP) (h2 : ¬ sysF q) : (ndE (D.get q)).1 = (ndE (D0.get q)).1 ∨ (ndE (D.get q)).1 = (newN D0 F q).1 ∨ (ndE (D.get q)).1 = 0 := by
 rcases h.node q h1 h2 with h | h | h
 ·exact .inl (by rw [h])
 ·exact .inr (.inl (by rw [h]))
 ·exact .inr (.inr (by rw [h.1]))
structure RunP (D0 : Dk) (F : List Fs) (D : Dk) (r : Int × Dk) (I : Dk → Prop) : Prop where
 or_ : (r.1 = 14 ∧ r.2.down = true ∧ Betw D0 F r.2) ∨ (r.1 = 0 ∧ r.2.down = false ∧ Betw D0 F r.2 ∧ I r.2)
 calm : D.armed < 0 → r.1 = 0 ∧ r.2.armed < 0
 firm : Firm D → Firm r.2
def KindsOk (B : List Fs) (D : Dk) : Prop := ∀ b ∈ B, (ndE (D.get b.p)).1 = 0 ∨ (ndE (D.get b.p)).1 = b.kind
theorem rm_phase (h : Plan D0 F) (hb : Betw D0 F D) (hu : D.down = false) : ∀ (B A : List Fs), F = A ++ B → RunP D0 F D (B.foldr (fun a s => rmS s a) (0, D)) (KindsOk B)
 |[], A, _ => ⟨.inr ⟨rfl, hu, hb, fun b hb => by cases hb⟩, fun hc => ⟨rfl, hc⟩, id⟩
 |a :: B, A, hF => by
  have ih := rm_phase h hb hu B (A ++ [a]) (by rw [hF]; simp)
  rw [List.foldr_cons]
  generalize B.foldr (fun a s => rmS s a) (0, D) = s at *
  obtain ⟨e, D1⟩ := s
  have haF : a ∈ F := by rw [hF]; simp
  obtain ⟨o1, o2, o3, o4⟩ := h.ok a haF
  have hna := newN_of (D0 := D0) h.nd haF
  rcases ih.or_ with ⟨e1, u1, b1⟩ | ⟨e1, u1, b1, k1⟩
  ·have e1 : e = 14 := e1
   have hr : rmS (e, D1) a = (e, D1) := by unfold rmS; rw [if_pos (by rw [e1]; show (14 : Int) ≠ 0; decide)]
   rw [hr]
   exact ⟨.inl ⟨e1, u1, b1⟩, ih.calm, ih.firm⟩
  ·have e1 : e = 0 := e1
   subst e1
   have u1 : D1.down = false := u1
   have b1 : Betw D0 F D1 := b1
   have k1 : KindsOk B D1 := k1
   by_cases hc : D1.kind a.p ≠ 0 ∧ D1.kind a.p ≠ a.kind
   ·have hr : rmS (0, D1) a = D1.remove a.p := by unfold rmS; rw [if_neg (fun hh => hh rfl)]; exact if_pos hc
    rw [hr]
    rw [kind_get] at hc
    have hchild : ∀ y, D1.has y = true → parentE y ≠ a.p := fun y hy hpy => by
     have hyok := b1.w.ok y hy
     have hyne := ok_ne hyok
     -- the path is a folder
     have hund := under_kind.1 (b1.w.up y hy)
     have hdeep : deepE y ≠ 1 := fun e => by
      have h1 := parent_deep hyok e
      rw [hpy] at h1
      exact ok_ne o1 h1
     have hdir : (ndE (D1.get a.p)).1 = 1 := by
      rcases hund with h1 | h1
      ·exact absurd h1 hdeep
      ·rw [← hpy]; exact h1
     have hak : a.kind ≠ 1 := fun e => hc.2 (by rw [hdir, e])
     have hys : y ≠ stgP := fun e => by
      rw [e, stg_ok.2.2.1] at hpy
      rw [← hpy] at o2
      exact absurd o2 (by decide +kernel)
     have hyf : ¬ sysF y := fun e => by
      rw [(sysF_ok e).2.2.1] at hpy
      rw [← hpy] at o2
      exact absurd o2 (by decide +kernel)
     have hny : (newN D0 F y).1 = 0 := by
      rcases Classical.em ((newN D0 F y).1 = 0) with h1 | h1
      ·exact h1
      ·have := h.up y hys hyf h1 hdeep
       rw [hpy, hna] at this
       exact absurd this hak
     have hkd := has_kind.1 hy
     rcases newN_cases D0 F y with ⟨c, hcF, hcy, hcn⟩ | ⟨hno, hcn⟩
     ·-- it is to go, and has gone
      have hcB : c ∈ B := by
       rw [hF] at hcF
       rcases List.mem_append.1 hcF with h1 | h1
       ·have := h.ord
        rw [hF] at this
        exact absurd (hcy ▸ hpy) ((List.pairwise_append.1 this).2.2 c h1 a (List.mem_cons_self ..))
       ·rcases List.mem_cons.1 h1 with h1 | h1
        ·exact absurd (by rw [← hcy, h1] at hpy; exact hpy) (parent_ne (ok_ne o1))
        ·exact h1
      have hck : c.kind = 0 := by rw [hcn] at hny; exact hny
      rcases k1 c hcB with h1 | h1
      ·rw [hcy] at h1; exact hkd h1
      ·rw [hcy, hck] at h1; exact hkd h1
     ·rcases b1.node y hys hyf with h1 | h1 | h1
      ·rw [hcn] at hny; rw [h1] at hkd; exact hkd hny
      ·rw [h1] at hkd; exact hkd hny
      ·rw [h1.1] at hkd; exact hkd rfl
    have hps : a.p ≠ sysP := fun e => by rw [e] at o2; exact absurd o2 (by decide +kernel)
    have hr := b1.w.remove u1 o1 hps (has_kind.2 hc.1) hchild
    rcases hr.or_ with ⟨e2, st⟩ | ⟨e2, u2, w2, g2⟩
    ·refine ⟨.inl ⟨e2, st.down, b1.same st.w fun y _ => st.get y⟩, fun hcm => ?_, fun hf => (ih.firm hf).same fun y _ => st.get y⟩
     have := hr.calm (ih.calm hcm).2
     omega
    ·have hgp : (D1.remove a.p).2.get a.p = none := by rw [g2, if_pos rfl]
     have hgo : ∀ y, y ≠ a.p → (D1.remove a.p).2.get y = D1.get y := fun y hy => by rw [g2, if_neg hy]
     refine ⟨.inr ⟨e2, u2, b1.move w2 o4 (fun y hy _ => hgo y hy) ?_, fun b hbm => ?_⟩, fun hcm => hr.calm (ih.calm hcm).2, fun hf q x n1 n2 hq => ?_⟩
     ·-- nothing stands there now
      rw [hgp]
      rcases Classical.em ((newN D0 F a.p).1 = 0) with h0 | h0
      ·refine .inl ?_
       rw [hna] at h0 ⊢
       have := (h.kinds a haF).2 (by have h0 : a.kind = 0 := h0; omega)
       have h0 : a.kind = 0 := h0
       rw [this, h0]; rfl
      ·refine .inr (.inr ⟨rfl, fun e => ?_⟩)
       rcases b1.kind o3 o4 with h1 | h1 | h1
       ·rw [e, hna] at h1; exact hc.2 h1
       ·rw [hna] at h1; exact hc.2 h1
       ·exact hc.1 h1
     ·rcases List.mem_cons.1 hbm with rfl | hbm
      ·exact .inl (by rw [hgp]; rfl)
      ·rw [hgo b.p (fun e => ?_)]
       ·exact k1 b hbm
       ·have := h.nd
        rw [hF, List.map_append, List.map_cons] at this
        have := (List.nodup_append.1 this).2.1
        exact (List.nodup_cons.1 this).1 (by rw [← e]; exact List.mem_map_of_mem hbm)
     ·by_cases e : q = a.p
      ·rw [e, hgp] at hq; cases hq
      ·exact ih.firm hf q x n1 n2 (by rw [← hgo q e]; exact hq)
   ·have hr : rmS (0, D1) a = (0, D1) := by unfold rmS; rw [if_neg (fun hh => hh rfl)]; exact if_neg hc
    rw [hr]
    refine ⟨.inr ⟨rfl, u1, b1, fun b hbm => ?_⟩, ih.calm, ih.firm⟩
    rcases List.mem_cons.1 hbm with rfl | hbm
    ·rw [kind_get] at hc
     rcases Classical.em ((ndE (D1.get b.p)).1 = 0) with h0 | h0
     ·exact .inl h0
     ·refine .inr (Classical.byContradiction fun h1 => hc ⟨h0, h1⟩)
    ·exact k1 b hbm
def DoneOn (A : List Fs) (D : Dk) : Prop := ∀ x ∈ A, ndE (D.get x.p) = (x.kind, x.data)
theorem lay_under (h : Plan D0 F) (hb : Betw D0 F D) {A B : List Fs} {a : Fs} (hF : F = A ++ a :: B) (hk : a.kind ≠ 0) (hd : DoneOn A D) : D.under a.p = true := by
 have haF : a ∈ F := by rw [hF]; simp
 obtain ⟨o1, o2, o3, o4⟩ := h.ok a haF
 have hna := newN_of (D0 := D0) h.nd haF
 have hup := h.up a.p o3 o4 (by rw [hna]; exact hk) Zo
 rw [under_kind]
 refine .inr ?_
 rcases newN_cases D0 F (parentE a.p) with ⟨c, hcF, hcp, hcn⟩ | ⟨_, hcn⟩
 ·rw [hcn] at hup
  rw [hF] at hcF
  have hord := h.ord
  rw [hF] at hord
  rcases List.mem_append.1 hcF with h1 | h1
  ·rw [← hcp, hd c h1]; exact hup
  ·rcases List.mem_cons.1 h1 with h1 | h1
   ·exact absurd (by rw [← hcp, h1]) (parent_ne (ok_ne o1))
   ·exact absurd hcp.symm ((List.pairwise_cons.1 (List.pairwise_append.1 hord).2.1).1 c h1)
 ·rw [hcn] at hup
  by_cases e1 : parentE a.p = stgP
  ·rw [e1] at hup
   have := dir_kind.2 hup
   rw [h.w.stg] at this; cases this
  by_cases e2 : sysF (parentE a.p)
  ·exact absurd (dir_kind.2 hup) (by rw [h.w.files _ e2]; decide)
  rcases hb.node _ e1 e2 with h1 | h1 | h1
  ·rw [h1]; exact hup
  ·rw [h1, hcn]; exact hup
  ·exact absurd (by rw [hcn]) h1.2
theorem lay_phase (h : Plan D0 F) : ∀ (B A : List Fs) (s : Int × Dk), F = A ++ B → RunP D0 F D s (fun D1 => KindsOk B D1 ∧ DoneOn A D1) → RunP D0 F D (B.foldl layS s) (DoneOn F)
 |[], A, s, hF, hr => by
  rw [List.append_nil] at hF
  subst hF
  exact ⟨hr.or_.imp id fun ⟨h1, h2, h3, h4⟩ => ⟨h1, h2, h3, h4.2⟩, hr.calm, hr.firm⟩
 |a :: B, A, s, hF, hr => by
  rw [List.foldl_cons]
  refine lay_phase h B (A ++ [a]) _ (by rw [hF]; simp) ?_
  obtain ⟨e, D1⟩ := s
  have haF : a ∈ F := by rw [hF]; simp
  obtain ⟨o1, o2, o3, o4⟩ := h.ok a haF
  have hna := newN_of (D0 := D0) h.nd haF
  rcases hr.or_ with ⟨e1, u1, b1⟩ | ⟨e1, u1, b1, k1, d1⟩
  ·have e1 : e = 14 := e1
   have hx : layS (e, D1) a = (e, D1) := by unfold layS; rw [if_pos (by rw [e1]; show (14 : Int) ≠ 0; decide)]
   rw [hx]
   exact ⟨.inl ⟨e1, u1, b1⟩, hr.calm, hr.firm⟩
  ·have e1 : e = 0 := e1
   subst e1
   have u1 : D1.down = false := u1
   have b1 : Betw D0 F D1 := b1
   have hnd := h.nd
   rw [hF, List.map_append, List.map_cons] at hnd
   have hnB : ∀ b ∈ B, b.p ≠ a.p := fun b hb e => (List.nodup_cons.1 (List.nodup_append.1 hnd).2.1).1 (by rw [← e]; exact List.mem_map_of_mem hb)
   have hnA : ∀ b ∈ A, b.p ≠ a.p := fun b hb e => (List.nodup_append.1 hnd).2.2 b.p (List.mem_map_of_mem hb) a.p (List.mem_cons_self ..) e
   have hps : a.p ≠ sysP := fun e => by rw [e] at o2; exact absurd o2 (by decide +kernel)
   -- what is left once the step is done
   have fin : ∀ D2 : Dk, D2.down = false → DkW D2 → ndE (D2.get a.p) = (a.kind, a.data) → (∀ y, y ≠ a.p → y ≠ stgP → D2.get y = D1.get y) → Betw D0 F D2 ∧ KindsOk B D2 ∧ DoneOn (A ++ [a]) D2 := fun D2 u2 w2 n2 g2 => by
    refine ⟨b1.move w2 o4 g2 (.inl (by rw [n2, hna])), fun b hb => ?_, fun x hx => ?_⟩
    ·rw [g2 b.p (hnB b hb) (h.ok b (by rw [hF]; simp [hb])).2.2.1]
     exact k1 b (List.mem_cons_of_mem _ hb)
    ·rcases List.mem_append.1 hx with hx | hx
     ·rw [g2 x.p (hnA x hx) (h.ok x (by rw [hF]; simp [hx])).2.2.1]
      exact d1 x hx
     ·rw [List.mem_singleton.1 hx]; exact n2
   obtain ⟨kk, kd⟩ := h.kinds a haF
   have ka : (ndE (D1.get a.p)).1 = 0 ∨ (ndE (D1.get a.p)).1 = a.kind := k1 a (List.mem_cons_self ..)
   rcases kk with k0 | k0 | k0
   ·-- nothing is to stand
    have hx : layS (0, D1) a = (0, D1) := by unfold layS; rw [if_neg (fun hh => hh rfl), if_neg Zo, if_neg Zo]
    rw [hx]
    have hz : D1.get a.p = none := kind_zero.1 (by rcases ka with h1 | h1 <;> omega)
    have := fin D1 u1 b1.w (by rw [hz, k0, kd Zo]; rfl) (fun _ _ _ => rfl)
    exact ⟨.inr ⟨rfl, u1, this.1, this.2⟩, hr.calm, hr.firm⟩
   ·by_cases hk : D1.kind a.p ≠ 1
    ·have hx : layS (0, D1) a = D1.mkdir a.p := by unfold layS; rw [if_neg (fun hh => hh rfl), if_pos k0]; exact if_pos hk
     rw [hx]
     rw [kind_get] at hk
     have hm := b1.w.mkdir u1 o1 (lay_under h b1 hF Zo d1) (by rcases ka with h1 | h1 <;> omega) o3 o4
     rcases hm.or_ with ⟨e2, st⟩ | ⟨e2, u2, w2, g2⟩
     ·refine ⟨.inl ⟨e2, st.down, b1.same st.w fun y _ => st.get y⟩, fun hcm => ?_, fun hf => (hr.firm hf).same fun y _ => st.get y⟩
      have := hm.calm (hr.calm hcm).2
      omega
     ·have := fin _ u2 w2 (by rw [g2, if_pos rfl, k0, kd Zo]; rfl) (fun y h1 _ => by rw [g2, if_neg h1])
      refine ⟨.inr ⟨e2, u2, this.1, this.2⟩, fun hcm => hm.calm (hr.calm hcm).2, fun hf q x n1 n2 hq => ?_⟩
      rw [g2] at hq
      by_cases e : q = a.p
      ·rw [if_pos e] at hq
       have hq := Option.some.inj hq
       subst hq
       exact ⟨rfl, rfl, fun _ => rfl⟩
      ·rw [if_neg e] at hq; exact hr.firm hf q x n1 n2 hq
    ·have hx : layS (0, D1) a = (0, D1) := by unfold layS; rw [if_neg (fun hh => hh rfl), if_pos k0]; exact if_neg hk
     rw [hx]
     rw [kind_get, Classical.not_not] at hk
     obtain ⟨x, hx1, hx2⟩ := kind_one.1 hk
     have := fin D1 u1 b1.w (by rw [hx1, nd_dir hx2, k0, kd Zo]) (fun _ _ _ => rfl)
     exact ⟨.inr ⟨rfl, u1, this.1, this.2⟩, hr.calm, hr.firm⟩
   ·have hx : layS (0, D1) a = D1.layF a.p a.data := by unfold layS; rw [if_neg (fun hh => hh rfl), if_neg Zo, if_pos k0]
    rw [hx]
    have hm := b1.w.layF u1 a.data o1 (lay_under h b1 hF Zo d1) o2 (by rcases ka with h1 | h1 <;> omega) hps o3
    rcases hm.or_ with ⟨e2, u2, w2, g2⟩ | ⟨e2, u2, w2, n2, g2⟩
    ·refine ⟨.inl ⟨e2, u2, b1.same w2 g2⟩, fun hcm => ?_, fun hf => hm.firm (hr.firm hf)⟩
     have := hm.calm (hr.calm hcm).2
     omega
    ·have := fin _ u2 w2 (by rw [n2, k0]) g2
     exact ⟨.inr ⟨e2, u2, this.1, this.2⟩, fun hcm => hm.calm (hr.calm hcm).2, fun hf => hm.firm (hr.firm hf)⟩
theorem Plan.run (h : Plan D0 F) (hb : Betw D0 F D) (hu : D.down = false) : RunP D0 F D (runF D F) (fun D1 => ∀ q, q ≠ stgP → ¬ sysF q → ndE (D1.get q) = newN D0 F q) := by
 have h1 := rm_phase h hb hu F [] rfl
 have h2 := lay_phase (D := D) h F [] (rmF D F) rfl (by
  unfold rmF
  rw [List.foldl_reverse]
  exact ⟨h1.or_.imp id fun ⟨a, b, c, d⟩ => ⟨a, b, c, d, fun x hx => (by cases hx)⟩, h1.calm, h1.firm⟩)
 refine ⟨h2.or_.imp id fun ⟨a, b, c, d⟩ => ⟨a, b, c, fun q n1 n2 => ?_⟩, h2.calm, h2.firm⟩
 rcases newN_cases D0 F q with ⟨x, hx, hp, hn⟩ | ⟨_, hn⟩
 ·rw [hn, ← hp]; exact d x hx
 ·rcases c.node q n1 n2 with h | h | h
  ·rw [hn]; exact h
  ·exact h
  ·exact absurd (by rw [hn]) h.2
end
open Go Go.J Go.RowKit
theorem bless_iff : ∀ {a b : List UInt8}, Op.bytesLess a b = true ↔ a < b
 |[], [] => by simp [Op.bytesLess]
 |_ :: _, [] => by simp [Op.bytesLess]
 |[], _ :: _ => by simp [Op.bytesLess]
 |x :: a, y :: b => by
  rw [List.cons_lt_cons_iff]
  unfold Op.bytesLess
  simp only [Bool.or_eq_true, decide_eq_true_eq, Bool.and_eq_true, beq_iff_eq]
  rw [bless_iff]
def belB (p y : List UInt8) : Bool := decide (y.take (p.length + 1) = p ++ [47])
theorem bel_iff {p y : List UInt8} : belB p y = true ↔ ∃ q, y = p ++ 47 :: q := by
 unfold belB
 rw [decide_eq_true_iff]
 constructor
 ·intro h
  refine ⟨y.drop (p.length + 1), ?_⟩
  have := List.take_append_drop (p.length + 1) y
  rw [h] at this
  rw [← this]; simp
 ·rintro ⟨q, rfl⟩
  rw [List.take_append, List.take_of_length_le Zo]
  simp
theorem bel_app (p q : List UInt8) : belB p (p ++ 47 :: q) = true := bel_iff.2 ⟨q, rfl⟩
theorem bel_trans {p q y : List UInt8} (h : belB p q = true) (k : belB q y = true) : belB p y = true := by
 obtain ⟨a, rfl⟩ := bel_iff.1 h
 obtain ⟨b, rfl⟩ := bel_iff.1 k
 exact bel_iff.2 ⟨a ++ 47 :: b, by simp⟩
def ownP (v y : List UInt8) : List UInt8 := y.drop (v.length + 1)
theorem ownP_app (v q : List UInt8) : ownP v (v ++ 47 :: q) = q := by
 unfold ownP
 rw [List.drop_append]; simp
theorem ownP_bel {v y : List UInt8} (h : belB v y = true) : v ++ 47 :: ownP v y = y := by
 obtain ⟨q, rfl⟩ := bel_iff.1 h
 rw [ownP_app]
def nodeD (D : Dk) (v q : List UInt8) : Int × List UInt8 := ndE (D.get (v ++ 47 :: q))
def entD (D : Dk) (v q : List UInt8) : Ent := ⟨q, (nodeD D v q).1, (nodeD D v q).2⟩
def Dk.belows (D : Dk) (p : List UInt8) : List (List UInt8) := (D.items.map Prod.fst).filter (belB p)
def ownsE (D : Dk) (v : List UInt8) : List (List UInt8) := sortL ((D.belows v).map (ownP v))
def walkE (D : Dk) (v : List UInt8) : List Ent := (ownsE D v).map (entD D v)
theorem mem_items {D : Dk} {y : List UInt8} : y ∈ D.items.map Prod.fst ↔ D.has y = true := by
 unfold Dk.has
 rw [← Option.ne_none_iff_isSome, Ne, mget_none, Classical.not_not]
theorem mem_belows {D : Dk} {p y : List UInt8} : y ∈ D.belows p ↔ D.has y = true ∧ belB p y = true := by
 unfold Dk.belows
 rw [List.mem_filter, mem_items]
theorem mem_owns {D : Dk} {v q : List UInt8} : q ∈ ownsE D v ↔ D.has (v ++ 47 :: q) = true := by
 unfold ownsE
 rw [show q ∈ sortL ((D.belows v).map (ownP v)) ↔ q ∈ (D.belows v).map (ownP v) from (List.mergeSort_perm _ _).mem_iff, List.mem_map]
 constructor
 ·rintro ⟨y, hy, rfl⟩
  obtain ⟨h1, h2⟩ := mem_belows.1 hy
  rw [ownP_bel h2]; exact h1
 ·intro h
  exact ⟨_, mem_belows.2 ⟨h, bel_app _ _⟩, ownP_app _ _⟩
theorem nodup_map_on {α β : Type} {f : α → β} : ∀ {l : List α}, (∀ a ∈ l, ∀ b ∈ l, f a = f b → a = b) → l.Nodup → (l.map f).Nodup
 |[], _, _ => .nil
 |x :: l, h, hn => by
  rw [List.nodup_cons] at hn
  rw [List.map_cons, List.nodup_cons]
  refine ⟨fun hm => ?_, nodup_map_on (fun a ha b hb => h a (List.mem_cons_of_mem _ ha) b (List.mem_cons_of_mem _ hb)) hn.2⟩
  obtain ⟨y, hy, e⟩ := List.mem_map.1 hm
  exact hn.1 (by rw [← h y (List.mem_cons_of_mem _ hy) x (List.mem_cons_self ..) e]; exact hy)
theorem owns_nodup {D : Dk} {v : List UInt8} (hn : (D.items.map Prod.fst).Nodup) : (ownsE D v).Nodup := by
 unfold ownsE
 rw [show (sortL ((D.belows v).map (ownP v))).Nodup ↔ ((D.belows v).map (ownP v)).Nodup from (List.mergeSort_perm _ _).nodup_iff]
 refine nodup_map_on (fun a ha b hb e => ?_) (hn.sublist List.filter_sublist)
 have h1 := ownP_bel (mem_belows.1 ha).2
 have h2 := ownP_bel (mem_belows.1 hb).2
 rw [← h1, ← h2, e]
theorem sorted_rise {l : List (List UInt8)} (hn : l.Nodup) : (sortL l).Pairwise fun a b => Op.bytesLess a b = true := by
 have h1 : (sortL l).Pairwise fun a b => a ≤ b := by
  have := List.pairwise_mergeSort (le := fun x y : List UInt8 => decide (x ≤ y)) (fun a b c h k => by
   simp only [decide_eq_true_eq] at *
   exact List.le_trans h k) (fun a b => by
   have := List.le_total a b
   simpa [Bool.or_eq_true] using this) l
  exact this.imp fun h => by simpa using h
 have h2 : (sortL l).Nodup := (List.mergeSort_perm _ _).nodup_iff.2 hn
 refine (h1.and h2).imp fun {a b} h => ?_
 rcases less_tri a b with h3 | h3 | h3
 ·exact h3
 ·exact absurd h3 h.2
 ·exact absurd (bless_iff.1 h3) (by have h := h.1; exact h)
theorem walk_rise {D : Dk} {v : List UInt8} (hn : (D.items.map Prod.fst).Nodup) : RiseG Ent.path Op.bytesLess (walkE D v) := by
 unfold RiseG walkE ownsE
 rw [List.pairwise_map]
 have : ((D.belows v).map (ownP v)).Nodup := by
  have := owns_nodup (v := v) hn
  unfold ownsE at this
  exact (List.mergeSort_perm _ _).nodup_iff.1 this
 exact sorted_rise this
theorem mem_walk {D : Dk} {v : List UInt8} {e : Ent} : e ∈ walkE D v ↔ D.has (v ++ 47 :: e.path) = true ∧ e = entD D v e.path := by
 unfold walkE
 rw [List.mem_map]
 constructor
 ·rintro ⟨q, hq, rfl⟩
  exact ⟨mem_owns.1 hq, rfl⟩
 ·rintro ⟨h1, h2⟩
  exact ⟨e.path, mem_owns.2 h1, h2.symm⟩
theorem rise_of {t : List Ent} (h : RiseG Ent.path Op.bytesLess t) : Rise t t.length := fun i j hi hj _ => List.pairwise_iff_getElem.1 h i j Zo hj hi
theorem of_rise {t : List Ent} (h : Rise t t.length) : RiseG Ent.path Op.bytesLess t := List.pairwise_iff_getElem.2 fun i j hi hj hij => h i j hij hj hj
abbrev nodeT (t : List Ent) (q : List UInt8) : Int × List UInt8 := ((getT t q).kind, (getT t q).data)
theorem nodeT_mem {t : List Ent} (h : RiseG Ent.path Op.bytesLess t) {e : Ent} (he : e ∈ t) : nodeT t e.path = (e.kind, e.data) := by
 obtain ⟨i, hi, rfl⟩ := List.getElem_of_mem he
 unfold nodeT
 rw [getT_at (rise_of h) hi]
theorem nodeT_no {t : List Ent} {q : List UInt8} (h : ∀ e ∈ t, e.path ≠ q) : nodeT t q = (0, []) := by
 unfold nodeT
 rw [getT_no h]
theorem getT_cases (t : List Ent) (q : List UInt8) : (∃ e ∈ t, e.path = q ∧ getT t q = e) ∨ ((∀ e ∈ t, e.path ≠ q) ∧ getT t q = ⟨[], 0, []⟩) := by
 unfold getT
 cases h : t.find? fun e => decide (e.path = q) with
 |some e =>
  have h1 := List.find?_some h
  exact .inl ⟨e, List.mem_of_find?_eq_some h, by simpa using h1, rfl⟩
 |none =>
  exact .inr ⟨fun e he => by simpa using List.find?_eq_none.1 h e he, rfl⟩
theorem walk_eq {D : Dk} {v : List UInt8} {t : List Ent} (hn : (D.items.map Prod.fst).Nodup) (ht : RiseG Ent.path Op.bytesLess t) (hk : ∀ e ∈ t, e.kind ≠ 0) (h : ∀ q, nodeD D v q = nodeT t q) : walkE D v = t := by
 refine rise_ext bytesO (walk_rise hn) ht fun e => ?_
 rw [mem_walk]
 constructor
 ·rintro ⟨h1, h2⟩
  have h3 := h e.path
  have h4 : (nodeD D v e.path).1 ≠ 0 := has_kind.1 h1
  rcases getT_cases t e.path with ⟨f, hf, hp, hg⟩ | ⟨hno, hg⟩
  ·have : e = f := by
    rw [h2]
    unfold entD
    rw [h3]
    unfold nodeT
    rw [hg, ← hp]
   rw [this]; exact hf
  ·rw [h3] at h4
   unfold nodeT at h4
   rw [hg] at h4
   exact absurd rfl h4
 ·intro he
  have h3 := nodeT_mem ht he
  have h4 := h e.path
  refine ⟨has_kind.2 ?_, ?_⟩
  ·show (nodeD D v e.path).1 ≠ 0
   rw [h4, h3]; exact hk e he
  ·unfold entD
   rw [h4, h3]
theorem name_no47 {s : List UInt8} (h : nameB s = true) : (47 : UInt8) ∉ s := fun hm => by
 unfold nameB at h
 rw [Bool.and_eq_true] at h
 exact absurd (List.all_eq_true.1 h.2 47 hm) Zd
theorem cut_cases {p par q b : List UInt8} (hb : (47 : UInt8) ∉ b) (h : p ++ 47 :: q = par ++ 47 :: b) : p = par ∨ belB p par = true := by
 rcases List.append_eq_append_iff.1 h with ⟨c, h1, h2⟩ | ⟨c, h1, h2⟩
 ·-- par = p ++ c, 47 :: q = c ++ 47 :: b
  cases c with
  |nil => exact .inl (by simpa using h1.symm)
  |cons x c =>
   rw [List.cons_append, List.cons.injEq] at h2
   rw [h1, ← h2.1]
   exact .inr (bel_app _ _)
 ·-- p = par ++ c, 47 :: b = c ++ 47 :: q
  cases c with
  |nil => exact .inl (by simpa using h1)
  |cons x c =>
   rw [List.cons_append, List.cons.injEq] at h2
   exact absurd (by rw [h2.2]; simp) hb
theorem slash_parts {y p : List UInt8} (hy : checkE y 6 = 0) (h : belB p y = true) : ∃ b, y = parentE y ++ 47 :: b ∧ (47 : UInt8) ∉ b ∧ parentE y ≠ [] ∧ deepE y ≠ 1 := by
 obtain ⟨p1, p2, _⟩ := parts y ((checkE_iff y 6).1 hy).2
 have hb47 := name_no47 p2
 have hbn : baseE y ≠ [] := fun e => by rw [e] at p2; simp [nameB] at p2
 have hin : (47 : UInt8) ∈ y := by
  obtain ⟨q, rfl⟩ := bel_iff.1 h
  simp
 have hpn : parentE y ≠ [] := fun e => by
  rw [e] at p1
  unfold joinE at p1
  rw [if_pos rfl] at p1
  rw [p1] at hb47; exact hb47 hin
 refine ⟨baseE y, ?_, hb47, hpn, fun e => hpn (parent_deep hy e)⟩
 have := joinE_ne hpn hbn
 rw [p1] at this
 exact this.trans (List.append_assoc _ _ _)
theorem parent_len {y b : List UInt8} (h : y = parentE y ++ 47 :: b) : (parentE y).length < y.length := by
 have := congrArg List.length h
 rw [List.length_append, List.length_cons] at this
 omega
section
variable {D : Dk}
theorem DkW.par (h : DkW D) {p y : List UInt8} (hy : D.has y = true) (hb : belB p y = true) : D.has (parentE y) = true ∧ (D.at (parentE y)).dir = true := by
 obtain ⟨b, h1, h2, h3, h4⟩ := slash_parts (h.ok y hy) hb
 have := h.up y hy
 unfold Dk.under at this
 rw [if_neg h4] at this
 refine ⟨?_, this⟩
 rw [Dk.at_get] at this
 rw [Dk.has_get]
 cases hg : D.get (parentE y) with
 |none => rw [hg] at this; cases this
 |some x => rfl
theorem bel_cases (h : DkW D) {p : List UInt8} : ∀ (n : Nat) (y : List UInt8), y.length ≤ n → D.has y = true → belB p y = true → y ∈ D.list p ∨ ∃ q ∈ D.list p, (D.at q).dir = true ∧ belB q y = true
 |0, y, hn, _, hb => by
  obtain ⟨q, rfl⟩ := bel_iff.1 hb
  simp at hn
 |n + 1, y, hn, hy, hb => by
  obtain ⟨b, h1, h2, h3, h4⟩ := slash_parts (h.ok y hy) hb
  obtain ⟨g1, g2⟩ := h.par hy hb
  obtain ⟨q, hq⟩ := bel_iff.1 hb
  rcases cut_cases h2 (hq.symm.trans h1) with e | e
  ·exact .inl (mem_list.2 ⟨hy, e.symm⟩)
  ·have hyp : belB (parentE y) y = true := bel_iff.2 ⟨b, h1⟩
   have hlen := parent_len h1
   rcases bel_cases h n (parentE y) Zo g1 e with h5 | ⟨r, h5, h6, h7⟩
   ·exact .inr ⟨_, h5, g2, hyp⟩
   ·exact .inr ⟨r, h5, h6, bel_trans h7 hyp⟩
theorem list_bel (h : DkW D) {p q : List UInt8} (hp : p ≠ []) (hq : q ∈ D.list p) : belB p q = true := by
 obtain ⟨h1, h2⟩ := mem_list.1 hq
 have hok := h.ok q h1
 obtain ⟨p1, p2, _⟩ := parts q ((checkE_iff q 6).1 hok).2
 have hbn : baseE q ≠ [] := fun e => by rw [e] at p2; simp [nameB] at p2
 rw [h2, joinE_ne hp hbn] at p1
 exact bel_iff.2 ⟨baseE q, p1.symm.trans (List.append_assoc _ _ _)⟩
theorem list_deep (h : DkW D) {p q : List UInt8} (hp : p ≠ []) (hq : q ∈ D.list p) : deepE q = deepE p + 1 ∧ deepE q ≤ 6 := by
 obtain ⟨h1, h2⟩ := mem_list.1 hq
 have hok := h.ok q h1
 obtain ⟨p1, p2, _⟩ := parts q ((checkE_iff q 6).1 hok).2
 have hbn : baseE q ≠ [] := fun e => by rw [e] at p2; simp [nameB] at p2
 have h3 := deep_join (p := p) (q := baseE q) hp hbn
 rw [← h2, p1, h2] at h3
 have h4 : deepE (baseE q) = 1 := by
  unfold deepE
  rw [if_neg hbn, List.count_eq_zero_of_not_mem (name_no47 p2)]; rfl
 have h5 := ((checkE_iff q 6).1 hok).1
 rw [← deep_len (ok_ne hok)] at h5
 omega
theorem bel_iff_list (h : DkW D) {p y : List UInt8} (hp : p ≠ []) (hy : D.has y = true) : belB p y = true ↔ ∃ q ∈ D.list p, y = q ∨ ((D.at q).dir = true ∧ belB q y = true) := by
 constructor
 ·intro hb
  rcases bel_cases h y.length y (Nat.le_refl _) hy hb with h1 | ⟨q, h1, h2, h3⟩
  ·exact ⟨y, h1, .inl rfl⟩
  ·exact ⟨q, h1, .inr ⟨h2, h3⟩⟩
 ·rintro ⟨q, hq, rfl | ⟨_, h2⟩⟩
  ·exact list_bel h hp hq
  ·exact bel_trans (list_bel h hp hq) h2
end
open Go Go.J Go.RowKit
theorem split47 {v u q r : List UInt8} (hv : (47 : UInt8) ∉ v) (hu : (47 : UInt8) ∉ u) (h : v ++ 47 :: q = u ++ 47 :: r) : v = u ∧ q = r := by
 rcases List.append_eq_append_iff.1 h with ⟨c, h1, h2⟩ | ⟨c, h1, h2⟩
 ·cases c with
  |nil => exact ⟨by simpa using h1.symm, by simpa using h2⟩
  |cons x c =>
   rw [List.cons_append, List.cons.injEq] at h2
   exact absurd (by rw [h1, ← h2.1]; simp) hu
 ·cases c with
  |nil => exact ⟨by simpa using h1, by simpa using h2.symm⟩
  |cons x c =>
   rw [List.cons_append, List.cons.injEq] at h2
   exact absurd (by rw [h1, ← h2.1]; simp) hv
theorem lastL_app (a b : List UInt8) (hb : (47 : UInt8) ∉ b) : ∀ j, j ≤ b.length → lastL (a ++ 47 :: b) (a.length + 1 + j) = (a.length : Int)
 |0, _ => by
  show (if (a ++ 47 :: b)[a.length]? = some 47 then _ else _) = _
  rw [if_pos (by simp)]
 |j + 1, h => by
  have hs : lastL (a ++ 47 :: b) (a.length + 1 + (j + 1)) = if (a ++ 47 :: b)[a.length + 1 + j]? = some 47 then ((a.length + 1 + j : Nat) : Int) else lastL (a ++ 47 :: b) (a.length + 1 + j) := rfl
  rw [hs, if_neg, lastL_app a b hb j Zo]
  rw [List.getElem?_append_right Zo, show a.length + 1 + j - a.length = j + 1 by omega, List.getElem?_cons_succ]
  intro e
  exact hb (List.mem_of_getElem? e)
theorem parent_of {a b : List UInt8} (hb : (47 : UInt8) ∉ b) : parentE (a ++ 47 :: b) = a := by
 have := lastL_app a b hb b.length (Nat.le_refl _)
 unfold parentE lastE
 rw [show (a ++ 47 :: b).length = a.length + 1 + b.length by simp; omega, this]
 simp
structure VolOk (v : List UInt8) : Prop where
 name : nameB v = true
 sys : v ≠ sysP
section
variable {v q : List UInt8}
theorem VolOk.no47 (h : VolOk v) : (47 : UInt8) ∉ v := name_no47 h.name
theorem VolOk.ne (h : VolOk v) : v ≠ [] := fun e => by have := h.name; rw [e] at this; simp [nameB] at this
theorem split_name (h : nameB v = true) : splitL v = [v] := by
 unfold splitL
 rw [splitA_none v (List.count_eq_zero_of_not_mem (name_no47 h))]
 rfl
theorem vol_check (hv : VolOk v) (hq : checkE q 5 = 0) : checkE (v ++ 47 :: q) 6 = 0 := by
 obtain ⟨h1, h2⟩ := (checkE_iff q 5).1 hq
 have : splitL (v ++ 47 :: q) = [v] ++ splitL q := by
  have := splitL_app v q
  rw [split_name hv.name] at this
  rw [← this]; simp
 refine (checkE_iff _ _).2 ?_
 rw [this, List.length_append, List.all_append, h2]
 refine ⟨by rw [List.length_singleton]; omega, by simp [hv.name]⟩
theorem vol_self (hv : VolOk v) : checkE v 6 = 0 ∧ checkE v 1 = 0 ∧ deepE v = 1 := by
 have h := split_name hv.name
 refine ⟨(checkE_iff _ _).2 ⟨by rw [h]; simp, by rw [h]; simp [hv.name]⟩, (checkE_iff _ _).2 ⟨by rw [h]; simp, by rw [h]; simp [hv.name]⟩, ?_⟩
 rw [deep_len hv.ne, h]; rfl
theorem vol_deep (hq : q ≠ []) : deepE (v ++ 47 :: q) = deepE v + deepE q ∨ v = [] := by
 by_cases h : v = []
 ·exact .inr h
 ·have := deep_join h hq
  rw [joinE_ne h hq] at this
  refine .inl ?_
  rw [← this]; simp
theorem deep_ge {q : List UInt8} (hq : q ≠ []) : 1 ≤ deepE q := by unfold deepE; rw [if_neg hq]; omega
theorem vol_deep1 (hv : VolOk v) (hq : q ≠ []) : 1 < deepE (v ++ 47 :: q) := by
 rcases vol_deep (v := v) hq with h | h
 ·have := (vol_self hv).2.2
  have := deep_ge hq
  omega
 ·exact absurd h hv.ne
theorem vol_nsys (hv : VolOk v) : v ++ 47 :: q ≠ sysP ∧ v ++ 47 :: q ≠ stgP ∧ ¬ sysF (v ++ 47 :: q) := by
 have key : ∀ r : List UInt8, v ++ 47 :: q ≠ sysP ++ 47 :: r := fun r e => hv.sys (split47 hv.no47 Zd e).1
 refine ⟨fun e => ?_, fun e => key [115, 116, 97, 103, 101] (by rw [e]; rfl), ?_⟩
 ·have : (47 : UInt8) ∈ v ++ 47 :: q := by simp
  rw [e] at this; exact absurd this Zd
 ·rintro (e | e | e | e)
  ·exact key [108, 111, 103] (by rw [e]; rfl)
  ·exact key [108, 111, 103, 95, 116] (by rw [e]; rfl)
  ·exact key [98, 97, 115, 101] (by rw [e]; rfl)
  ·exact key [98, 97, 115, 101, 95, 116] (by rw [e]; rfl)
theorem vol_parent (hv : VolOk v) (hq : checkE q 5 = 0) : parentE (v ++ 47 :: q) = if parentE q = [] then v else v ++ 47 :: parentE q := by
 obtain ⟨p1, p2, _⟩ := parts q ((checkE_iff q 5).1 hq).2
 have hb := name_no47 p2
 have hbn : baseE q ≠ [] := fun e => by rw [e] at p2; simp [nameB] at p2
 by_cases h : parentE q = []
 ·rw [if_pos h]
  rw [h] at p1
  unfold joinE at p1
  rw [if_pos rfl] at p1
  rw [← p1]
  exact parent_of hb
 ·rw [if_neg h]
  rw [joinE_ne h hbn] at p1
  have : v ++ 47 :: q = (v ++ 47 :: parentE q) ++ 47 :: baseE q := by
   rw [List.append_assoc, List.cons_append]
   congr 2
   exact p1.symm.trans (List.append_assoc _ _ _)
  rw [this]
  exact parent_of hb
theorem check_ne {q : List UInt8} {d : Int} (h : checkE q d = 0) : q ≠ [] := fun e => by rw [e, checkE_empty] at h; exact absurd h Zd
end
def lay1 (v : List UInt8) (s : Int × Dk) (x : Ent) : Int × Dk := if s.1 ≠ 0 then s else if x.kind = 1 then s.2.mkdir (v ++ 47 :: x.path) else if (s.2.write (v ++ 47 :: x.path) x.data).1 ≠ 0 then s.2.write (v ++ 47 :: x.path) x.data else (s.2.write (v ++ 47 :: x.path) x.data).2.sync (v ++ 47 :: x.path)
def layT (D : Dk) (v : List UInt8) (t : List Ent) : Int × Dk := t.foldl (lay1 v) (0, D)
structure Quiet (D : Dk) : Prop where
 w : DkW D
 up : D.down = false
 calm : D.armed < 0
section
variable {D : Dk} {p : List UInt8}
theorem Quiet.file (h : Quiet D) {s : List UInt8} (hok : checkE p 6 = 0) (h2 : 1 < deepE p) (hu : D.under p = true) (hk : (ndE (D.get p)).1 ≠ 1) (hs : p ≠ sysP) (hst : p ≠ stgP) :
  (D.write p s).1 = 0 ∧ ((D.write p s).2.sync p).1 = 0 ∧ Quiet ((D.write p s).2.sync p).2 ∧ (∀ y, y ≠ p → ((D.write p s).2.sync p).2.get y = D.get y) ∧ ∃ x, ((D.write p s).2.sync p).2.get p = some x ∧ x.dir = false ∧ x.data = s ∧ x.kept = s ∧ x.loose = false ∧ x.anew = false := by
 have hm := may_ok (n := 1) h.up hok h2
 have hd : (D.at p).dir = false := by
  cases e : (D.at p).dir with
  |false => rfl
  |true => exact absurd (dir_kind.1 e) hk
 have ha : ¬ D.armed = 0 := by have := h.calm; omega
 have hw : D.write p s = (0, D.step.set p { D.at p with data := s, loose := true, anew := true }) := by
  unfold Dk.write
  rw [hm, if_neg (fun hh => hh rfl), hu, if_neg Zd, hd, if_neg Zd, stepE1 ha, if_neg (fun hh => hh rfl)]
 rw [hw]
 have hg1 : ∀ y, (D.step.set p { D.at p with data := s, loose := true, anew := true }).get y = if y = p then some { D.at p with data := s, loose := true, anew := true, stamp := IntKind.i64.wrap (D.stamps + 1) } else D.get y := fun y => by
  rw [Dk.get_set, step_stamps, Dk.get_step]
 have hw1 : DkW (D.step.set p { D.at p with data := s, loose := true, anew := true }) :=
  h.w.put hg1 (by show D.step.limits = _; rw [Dk.step_limits]) (mset_nodup (by rw [Dk.step_items]; exact h.w.nd) _ _) hs (fun e => absurd e hst) (fun _ => hd) hok hu (fun e => by rw [hd] at e; cases e)
 have hu1 : (D.step.set p { D.at p with data := s, loose := true, anew := true }).down = false := by
  show D.step.down = false
  rw [step_up ha]; exact h.up
 have hc1 : (D.step.set p { D.at p with data := s, loose := true, anew := true }).armed < 0 := step_calm h.calm
 show (0 : Int) = 0 ∧ ((D.step.set p { D.at p with data := s, loose := true, anew := true }).sync p).1 = 0 ∧ Quiet ((D.step.set p { D.at p with data := s, loose := true, anew := true }).sync p).2 ∧ _
 generalize D.step.set p { D.at p with data := s, loose := true, anew := true } = D1 at *
 have ha1 : ¬ D1.armed = 0 := Zo
 have hh1 : D1.has p = true := by rw [Dk.has_get, hg1, if_pos rfl]; rfl
 have hat : D1.at p = { D.at p with data := s, loose := true, anew := true, stamp := IntKind.i64.wrap (D.stamps + 1) } := by rw [Dk.at_get, hg1, if_pos rfl]; rfl
 have hd1 : (D1.at p).dir = false := by rw [hat]; exact hd
 have hund : D1.under p = true := by
  rw [under_kind] at hu ⊢
  rcases hu with hu | hu
  ·exact .inl hu
  ·refine .inr ?_
   rw [hg1, if_neg (parent_ne (check_ne hok))]; exact hu
 have hy : D1.sync p = (0, { D1.step with items := mset D1.step.items p { D1.at p with kept := (D1.at p).data, loose := false, anew := false } }) := by
  unfold Dk.sync
  rw [file_ok hu1 hok h2 hh1 hd1, if_neg (fun hh => hh rfl), stepE1 ha1, if_neg (fun hh => hh rfl), Dk.step_at]
 rw [hy]
 have hg2 : ∀ y, Dk.get { D1.step with items := mset D1.step.items p { D1.at p with kept := (D1.at p).data, loose := false, anew := false } } y = if y = p then some { D1.at p with kept := (D1.at p).data, loose := false, anew := false } else D1.get y := fun y => by
  rw [Dk.get_put, Dk.get_step]
 refine ⟨rfl, rfl, ⟨?_, ?_, ?_⟩, fun y hy => ?_, _, (hg2 p).trans (if_pos rfl), hd1, ?_, ?_, rfl, rfl⟩
 ·exact hw1.put hg2 (by show D1.step.limits = _; rw [Dk.step_limits]) (mset_nodup (by rw [Dk.step_items]; exact hw1.nd) _ _) hs (fun e => absurd e hst) (fun _ => hd1) hok hund (fun e => by rw [hd1] at e; cases e)
 ·show D1.step.down = false
  rw [step_up ha1]; exact hu1
 ·exact step_calm hc1
 ·show Dk.get { D1.step with items := mset D1.step.items p { D1.at p with kept := (D1.at p).data, loose := false, anew := false } } y = _
  rw [hg2, if_neg hy, hg1, if_neg hy]
 ·show (D1.at p).data = s
  rw [hat]
 ·show (D1.at p).data = s
  rw [hat]
theorem Quiet.mkdir (h : Quiet D) (hok : checkE p 6 = 0) (hu : D.under p = true) (hk : (ndE (D.get p)).1 ≠ 2) (hp : p ≠ stgP) (hf : ¬ sysF p) : (D.mkdir p).1 = 0 ∧ Quiet (D.mkdir p).2 ∧ ∀ y, (D.mkdir p).2.get y = if y = p then some { It0 with dir := true } else D.get y := by
 have := h.w.mkdir h.up hok hu hk hp hf
 obtain ⟨c1, c2⟩ := this.calm h.calm
 rcases this.or_ with ⟨e, _⟩ | ⟨e, u, w, g⟩
 ·rw [e] at c1; exact absurd c1 Zd
 ·exact ⟨e, ⟨w, u, c2⟩, g⟩
end
structure LaidTo (D0 : Dk) (v : List UInt8) (t : List Ent) (s : Int × Dk) : Prop where
 ok : s.1 = 0
 q : Quiet s.2
 node : ∀ q, nodeD s.2 v q = nodeT t q
 other : ∀ y, belB v y = false → s.2.get y = D0.get y
 firm : Firm D0 → Firm s.2
theorem nodeT_snoc {t : List Ent} {x : Ent} (h : ∀ e ∈ t, e.path ≠ x.path) (q : List UInt8) : nodeT (t ++ [x]) q = if q = x.path then (x.kind, x.data) else nodeT t q := by
 unfold nodeT getT
 rw [List.find?_append]
 by_cases e : q = x.path
 ·subst e
  rw [List.find?_eq_none.2 fun e he => by simpa using h e he, if_pos rfl]
  simp
 ·rw [if_neg e]
  have : (decide (x.path = q)) = false := decide_eq_false (fun h => e h.symm)
  cases hf : t.find? fun e => decide (e.path = q) with
  |some a => rfl
  |none => simp [this]
theorem lay_to {D : Dk} {v : List UInt8} (hv : VolOk v) (hd : (D.at v).dir = true) {t : List Ent} (ht : TreeOk t) : ∀ k, k ≤ t.length → LaidTo D v (t.take 0) (0, D) → LaidTo D v (t.take k) ((t.take k).foldl (lay1 v) (0, D))
 |0, _, h => h
 |k + 1, hk, h => by
  have ih := lay_to hv hd ht k Zo h
  have hkl : k < t.length := hk
  rw [List.take_succ_eq_append_getElem hkl, List.foldl_append]
  have hx := ht k hkl
  have hlt : ∀ e ∈ t.take k, e.path ≠ t[k].path := fun e he ep => by
   obtain ⟨j, hj, rfl⟩ := List.getElem_of_mem he
   rw [List.length_take] at hj
   rw [List.getElem_take] at ep
   have := ht.rise j k Zo hkl hkl
   rw [ep, less_irr] at this; cases this
  have hup : parentE t[k].path ≠ [] → (nodeT (t.take k) (parentE t[k].path)).1 = 1 := fun hne => by
   obtain ⟨j, hj, e1, e2⟩ := hx.up hne
   exact (up_take (n := k) (fun i j hi hj _ => ht.rise i j hi hj hj) Zo).2 ⟨j, hj, e1, e2⟩
  generalize (t.take k).foldl (lay1 v) (0, D) = s at *
  generalize t.take k = tk at *
  obtain ⟨hp, hw, hkd, _, _⟩ := hx
  generalize t[k] = x at *
  obtain ⟨e, D1⟩ := s
  have he : e = 0 := ih.ok
  subst he
  have hq : Quiet D1 := ih.q
  obtain ⟨n1, n2, n3⟩ := vol_nsys (q := x.path) hv
  have hok := vol_check hv hp
  have hund : D1.under (v ++ 47 :: x.path) = true := by
   rw [under_kind]
   refine .inr ?_
   rw [vol_parent hv hp]
   split
   ·have := ih.other v (by
     cases hb : belB v v with
     |false => rfl
     |true =>
      obtain ⟨q, hq⟩ := bel_iff.1 hb
      exact absurd (congrArg List.length hq) (by simp))
    rw [show (D1.get v) = _ from this]
    exact dir_kind.1 hd
   ·rename_i hne
    have := ih.node (parentE x.path)
    unfold nodeD at this
    rw [show ndE (D1.get (v ++ 47 :: parentE x.path)) = _ from this]
    exact hup hne
  have hno : D1.get (v ++ 47 :: x.path) = none := by
   have := ih.node x.path
   rw [nodeT_no hlt] at this
   unfold nodeD at this
   exact kind_zero.1 (congrArg Prod.fst this)
  have hk0 : (ndE (D1.get (v ++ 47 :: x.path))).1 = 0 := by rw [hno]; rfl
  have hdp := vol_deep1 hv (check_ne hp)
  have inj : ∀ q, v ++ 47 :: q = v ++ 47 :: x.path → q = x.path := fun q h => by
   rw [List.append_cancel_left_eq, List.cons.injEq] at h
   exact h.2
  -- the step itself
  have fin : ∀ D2 : Dk, Quiet D2 → (∀ y, y ≠ v ++ 47 :: x.path → D2.get y = D1.get y) → ndE (D2.get (v ++ 47 :: x.path)) = (x.kind, x.data) → (∀ y, D2.get (v ++ 47 :: x.path) = some y → y.loose = false ∧ y.anew = false ∧ (y.dir = false → y.kept = y.data)) → LaidTo D v (tk ++ [x]) (0, D2) := fun D2 q2 g2 m2 f2 => by
   refine ⟨rfl, q2, fun q => ?_, fun y hy => ?_, fun hf p y h1 h2 h3 => ?_⟩
   ·rw [nodeT_snoc hlt]
    by_cases e : q = x.path
    ·rw [if_pos e, e]; exact m2
    ·rw [if_neg e]
     have := ih.node q
     unfold nodeD at this ⊢
     rw [show ndE (D2.get (v ++ 47 :: q)) = ndE (D1.get (v ++ 47 :: q)) by rw [g2 _ (fun h => e (inj q h))]]
     exact this
   ·show D2.get y = D.get y
    rw [g2 y (fun e => by rw [e, bel_app] at hy; cases hy)]
    exact ih.other y hy
   ·by_cases e : p = v ++ 47 :: x.path
    ·rw [e] at h3; exact f2 y h3
    ·exact ih.firm hf p y h1 h2 (by rw [← g2 p e]; exact h3)
  show LaidTo D v (tk ++ [x]) (lay1 v (0, D1) x)
  unfold lay1
  rw [if_neg (fun hh => hh rfl)]
  by_cases h1 : x.kind = 1
  ·rw [if_pos h1]
   have hxd : x.data = [] := by
    unfold wholeE at hw
    rw [if_pos (.inr h1)] at hw
    exact of_decide_eq_true hw
   obtain ⟨a1, a2, a3⟩ := hq.mkdir hok hund (by show ¬ (ndE (D1.get _)).1 = 2; omega) n2 n3
   have hpr : D1.mkdir (v ++ 47 :: x.path) = (0, (D1.mkdir (v ++ 47 :: x.path)).2) := Prod.ext a1 rfl
   show LaidTo D v (tk ++ [x]) (D1.mkdir (v ++ 47 :: x.path))
   rw [hpr]
   refine fin _ a2 (fun y hy => by rw [a3, if_neg hy]) (by rw [a3, if_pos rfl, h1, hxd]; rfl) fun y hy => ?_
   rw [a3, if_pos rfl] at hy
   have hy := Option.some.inj hy
   subst hy
   exact ⟨rfl, rfl, fun _ => rfl⟩
  ·rw [if_neg h1]
   have h2 : x.kind = 2 := by
    unfold wholeE at hw
    split at hw
    ·rename_i h; rcases h with h | h
     ·exact absurd h hkd
     ·exact absurd h h1
    ·split at hw
     ·assumption
     ·cases hw
   obtain ⟨a1, a2, a3, a4, y, a5, a6, a7, a8, a9, a10⟩ := hq.file (s := x.data) hok hdp hund Zo n1 n2
   show LaidTo D v (tk ++ [x]) (if (D1.write (v ++ 47 :: x.path) x.data).1 ≠ 0 then _ else (D1.write (v ++ 47 :: x.path) x.data).2.sync (v ++ 47 :: x.path))
   rw [a1, if_neg (fun hh => hh rfl)]
   have hpr : (D1.write (v ++ 47 :: x.path) x.data).2.sync (v ++ 47 :: x.path) = (0, ((D1.write (v ++ 47 :: x.path) x.data).2.sync (v ++ 47 :: x.path)).2) := Prod.ext a2 rfl
   rw [hpr]
   refine fin _ a3 a4 (by rw [a5, nd_file a6, a7, h2]) fun z hz => ?_
   rw [a5] at hz
   have hz := Option.some.inj hz
   subst hz
   exact ⟨a9, a10, fun _ => a8.trans a7.symm⟩
theorem layT_ok {D : Dk} {v : List UInt8} (hv : VolOk v) (hq : Quiet D) (hd : (D.at v).dir = true) (he : ∀ y, D.has y = true → belB v y = false) {t : List Ent} (ht : TreeOk t) : LaidTo D v t (layT D v t) := by
 have := lay_to hv hd ht t.length (Nat.le_refl _) ⟨rfl, hq, fun q => ?_, fun _ _ => rfl, id⟩
 ·rw [List.take_of_length_le (Nat.le_refl _)] at this
  exact this
 ·rw [List.take_zero, nodeT_no (fun e he => by cases he)]
  unfold nodeD
  have : D.get (v ++ 47 :: q) = none := by
   cases hg : D.get (v ++ 47 :: q) with
   |none => rfl
   |some x =>
    have := he _ (has_of_get hg)
    rw [bel_app] at this; cases this
  show ndE (D.get (v ++ 47 :: q)) = _
  rw [this]; rfl
end Go.Proofs.YtccfiohagbneaaaGreatDoor
