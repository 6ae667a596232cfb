/- What is proved: contracts and plain facts that the law leans on (texts put together). Conditions: as each names them. -/
import Derived.Test.YtobfdeiimnnanaaGreatDoorM3
import Derived.Shelf.SlIter.Nil
import Derived.Shelf.SortM.Plain
import Derived.Shelf.SortM.SortNone
import Derived.Shelf.Strconv.Atoi
import Derived.Shelf.Strconv.Itoa3
import Derived.Shelf.Small.Strs
import Derived.Shelf.Strings.Repeat
import Derived.Test.YtobfdeiimnnanaaGreatDoorProg
import Derived.Test.YtobfdeiimnnanaaGreatDoorRows
import Derived.ProofKit
import Derived.ChangeSame
import Derived.OpenShut
import Derived.Deep.Slices
import Derived.JoinedCond
import Derived.Lib.ItoaNum
import Derived.Lib.AppendIntMem
import Derived.Lib.ItoaLen
import Derived.Lib.AtoiErrMem
set_option linter.unusedSimpArgs false
set_option linter.unusedVariables false
/-
  DERIVED: THE SHELF's CONTRACTS AT THIS DUMP, IN PLAIN WORDS (tools/lay-plain.mjs out of 'TryzShelf.lean', which tools/lay-shelf.mjs wrote): THE SAME DECLARATIONS UNDER THE SAME NAMES: 'import', 'namespace', 'open', 'def', 'theorem' AND NOTHING ELSE: no command of the shelf's: FOR A HAND-IN. Each laying: the table of numbers ('.._ren') and one theorem, a field a fact of the dump's own or the kernel's comparison; each contract: ONE APPLICATION.
-/
namespace Go.Proofs
open Go.Shelf
def Tryz.sortedL_ren : Go.Shelf.Ren := ⟨fun | 6 => 128 | 8 => 171 | 9 => 71 | 11 => 204 | 13 => 123 | 12 => 122 | 23 => 165 | 24 => 166 | 14 => 156 | 15 => 157 | 16 => 158 | 17 => 159 | 18 => 160 | 19 => 161 | 20 => 162 | 21 => 163 | 22 => 164 | 25 => 196 | 26 => 197 | 27 => 198 | 28 => 199 | 29 => 200 | 30 => 201 | 31 => 223 | n => n, fun | 26 => 9 | 28 => 203 | 24 => 44 | 0 => 0 | 3 => 3 | 37 => 190 | 48 => 188 | 50 => 178 | 4 => 4 | 40 => 227 | 39 => 226 | 45 => 156 | 5 => 5 | 9 => 9 | 51 => 255 | 55 => 259 | 57 => 282 | 58 => 283 | 33 => 162 | n => n, fun | n => n⟩
theorem Tryz.sortedL : Go.Proofs.SlLaysZ.n6 Tryz.prog Tryz.sortedL_ren := {
  mixed := by kernel_rfl
  f6 := ⟨Tryz.f128.name, by decide, Tryz.func128.trans (congrArg some (by kernel_rfl))⟩
  f8 := ⟨Tryz.f171.name, by decide, Tryz.func171.trans (congrArg some (by kernel_rfl))⟩
  f11 := ⟨Tryz.f204.name, by decide, Tryz.func204.trans (congrArg some (by kernel_rfl))⟩
  t0 := Tryz.underlying0
  a0 := Tryz.isAgg0
  z0 := Tryz.sizeOf0
  v0 := Tryz.zeroValue0
  t24 := Tryz.underlying44
  a24 := Tryz.isAgg44
  z24 := Tryz.sizeOf44
  v24 := Tryz.zeroValue44
  t26 := Tryz.underlying9
  a26 := Tryz.isAgg9
  z26 := Tryz.sizeOf9
  v26 := Tryz.zeroValue9
  t28 := Tryz.underlying203
  a28 := Tryz.isAgg203
  z28 := Tryz.sizeOf203
  v28 := Tryz.zeroValue203
  i26 := by kernel_rfl }
def Tryz.sortL_ren : Go.Shelf.Ren := ⟨fun | 6 => 71 | 8 => 123 | 9 => 122 | 19 => 165 | 20 => 166 | 21 => 156 | 22 => 157 | 23 => 158 | 24 => 159 | 25 => 160 | 26 => 161 | 27 => 162 | 28 => 163 | 29 => 164 | 36 => 196 | 31 => 197 | 32 => 198 | 37 => 199 | 38 => 200 | 39 => 201 | 41 => 223 | n => n, fun | 27 => 44 | 29 => 9 | 3 => 3 | 32 => 190 | 26 => 44 | 0 => 0 | 44 => 188 | 46 => 178 | 4 => 4 | 36 => 227 | 35 => 226 | 41 => 156 | 5 => 5 | 9 => 9 | 53 => 255 | 57 => 259 | 63 => 282 | 64 => 283 | n => n, fun | n => n⟩
theorem Tryz.sortL : Go.Proofs.SlLaysM.n6 Tryz.prog Tryz.sortL_ren := {
  mixed := by kernel_rfl
  f6 := ⟨Tryz.f71.name, by decide, Tryz.func71.trans (congrArg some (by kernel_rfl))⟩
  f8 := Tryz.func123.trans (congrArg some (by kernel_rfl))
  f9 := ⟨Tryz.f122.name, by decide, Tryz.func122.trans (congrArg some (by kernel_rfl))⟩
  f19 := Tryz.func165.trans (congrArg some (by kernel_rfl))
  f20 := Tryz.func166.trans (congrArg some (by kernel_rfl))
  f21 := ⟨Tryz.f156.name, by decide, Tryz.func156.trans (congrArg some (by kernel_rfl))⟩
  f22 := ⟨Tryz.f157.name, by decide, Tryz.func157.trans (congrArg some (by kernel_rfl))⟩
  f23 := ⟨Tryz.f158.name, by decide, Tryz.func158.trans (congrArg some (by kernel_rfl))⟩
  f24 := ⟨Tryz.f159.name, by decide, Tryz.func159.trans (congrArg some (by kernel_rfl))⟩
  f25 := ⟨Tryz.f160.name, by decide, Tryz.func160.trans (congrArg some (by kernel_rfl))⟩
  f26 := ⟨Tryz.f161.name, by decide, Tryz.func161.trans (congrArg some (by kernel_rfl))⟩
  f27 := ⟨Tryz.f162.name, by decide, Tryz.func162.trans (congrArg some (by kernel_rfl))⟩
  f28 := ⟨Tryz.f163.name, by decide, Tryz.func163.trans (congrArg some (by kernel_rfl))⟩
  f29 := ⟨Tryz.f164.name, by decide, Tryz.func164.trans (congrArg some (by kernel_rfl))⟩
  f31 := Tryz.func197.trans (congrArg some (by kernel_rfl))
  f32 := Tryz.func198.trans (congrArg some (by kernel_rfl))
  f36 := ⟨Tryz.f196.name, by decide, Tryz.func196.trans (congrArg some (by kernel_rfl))⟩
  f37 := ⟨Tryz.f199.name, by decide, Tryz.func199.trans (congrArg some (by kernel_rfl))⟩
  f38 := ⟨Tryz.f200.name, by decide, Tryz.func200.trans (congrArg some (by kernel_rfl))⟩
  f39 := ⟨Tryz.f201.name, by decide, Tryz.func201.trans (congrArg some (by kernel_rfl))⟩
  f41 := ⟨Tryz.f223.name, by decide, Tryz.func223.trans (congrArg some (by kernel_rfl))⟩
  t0 := Tryz.underlying0
  a0 := Tryz.isAgg0
  z0 := Tryz.sizeOf0
  v0 := Tryz.zeroValue0
  t3 := Tryz.underlying3
  a3 := Tryz.isAgg3
  z3 := Tryz.sizeOf3
  v3 := Tryz.zeroValue3
  t4 := Tryz.underlying4
  a4 := Tryz.isAgg4
  z4 := Tryz.sizeOf4
  v4 := Tryz.zeroValue4
  t5 := Tryz.underlying5
  a5 := Tryz.isAgg5
  z5 := Tryz.sizeOf5
  v5 := Tryz.zeroValue5
  t9 := Tryz.underlying9
  a9 := Tryz.isAgg9
  z9 := Tryz.sizeOf9
  v9 := Tryz.zeroValue9
  t26 := Tryz.underlying44
  a26 := Tryz.isAgg44
  z26 := Tryz.sizeOf44
  v26 := Tryz.zeroValue44
  t27 := Tryz.underlying44
  a27 := Tryz.isAgg44
  z27 := Tryz.sizeOf44
  v27 := Tryz.zeroValue44
  t29 := Tryz.underlying9
  a29 := Tryz.isAgg9
  z29 := Tryz.sizeOf9
  v29 := Tryz.zeroValue9
  t32 := Tryz.underlying190
  a32 := Tryz.isAgg190
  z32 := Tryz.sizeOf190
  v32 := Tryz.zeroValue190
  t35 := Tryz.underlying226
  a35 := Tryz.isAgg226
  z35 := Tryz.sizeOf226
  v35 := Tryz.zeroValue226
  t36 := Tryz.underlying227
  a36 := Tryz.isAgg227
  z36 := Tryz.sizeOf227
  v36 := Tryz.zeroValue227
  t41 := Tryz.underlying156
  a41 := Tryz.isAgg156
  z41 := Tryz.sizeOf156
  v41 := Tryz.zeroValue156
  t44 := Tryz.underlying188
  a44 := Tryz.isAgg188
  z44 := Tryz.sizeOf188
  v44 := Tryz.zeroValue188
  t46 := Tryz.underlying178
  a46 := Tryz.isAgg178
  z46 := Tryz.sizeOf178
  v46 := Tryz.zeroValue178
  t53 := Tryz.underlying255
  a53 := Tryz.isAgg255
  z53 := Tryz.sizeOf255
  v53 := Tryz.zeroValue255
  t57 := Tryz.underlying259
  a57 := Tryz.isAgg259
  z57 := Tryz.sizeOf259
  v57 := Tryz.zeroValue259
  t63 := Tryz.underlying282
  a63 := Tryz.isAgg282
  z63 := Tryz.sizeOf282
  v63 := Tryz.zeroValue282
  t64 := Tryz.underlying283
  a64 := Tryz.isAgg283
  z64 := Tryz.sizeOf283
  v64 := Tryz.zeroValue283 }
def Tryz.keysVL_ren : Go.Shelf.Ren := ⟨fun | 7 => 129 | 10 => 172 | n => n, fun | 23 => 99 | 26 => 9 | 3 => 176 | 28 => 203 | 0 => 0 | 27 => 202 | 33 => 162 | 4 => 4 | n => n, fun | n => n⟩
theorem Tryz.keysVL : Go.Proofs.SlLaysZ.n7 Tryz.prog Tryz.keysVL_ren := {
  mixed := by kernel_rfl
  f7 := ⟨Tryz.f129.name, by decide, Tryz.func129.trans (congrArg some (by kernel_rfl))⟩
  f10 := ⟨Tryz.f172.name, by decide, Tryz.func172.trans (congrArg some (by kernel_rfl))⟩
  t0 := Tryz.underlying0
  a0 := Tryz.isAgg0
  z0 := Tryz.sizeOf0
  v0 := Tryz.zeroValue0
  t4 := Tryz.underlying4
  a4 := Tryz.isAgg4
  z4 := Tryz.sizeOf4
  v4 := Tryz.zeroValue4
  t23 := Tryz.underlying99
  a23 := Tryz.isAgg99
  z23 := Tryz.sizeOf99
  v23 := Tryz.zeroValue99
  t26 := Tryz.underlying9
  a26 := Tryz.isAgg9
  z26 := Tryz.sizeOf9
  v26 := Tryz.zeroValue9
  t27 := Tryz.underlying202
  a27 := Tryz.isAgg202
  z27 := Tryz.sizeOf202
  v27 := Tryz.zeroValue202
  t28 := Tryz.underlying203
  a28 := Tryz.isAgg203
  z28 := Tryz.sizeOf203
  v28 := Tryz.zeroValue203
  t33 := Tryz.underlying162
  a33 := Tryz.isAgg162
  z33 := Tryz.sizeOf162
  v33 := Tryz.zeroValue162 }
def Tryz.atoiL_ren : Go.Shelf.Ren := ⟨fun | 172 => 117 | 244 => 153 | 245 => 154 | 247 => 190 | 279 => 191 | 280 => 192 | 281 => 193 | 282 => 194 | 287 => 216 | 316 => 217 | 171 => 118 | 205 => 218 | 321 => 238 | 322 => 239 | 243 => 155 | 246 => 195 | 283 => 219 | 284 => 220 | 285 => 221 | 286 => 222 | 129 => 166 | 317 => 240 | 318 => 241 | 319 => 242 | 320 => 243 | 337 => 253 | 338 => 254 | n => n, fun | 9 => 9 | 3 => 3 | 75 => 184 | 76 => 185 | 4 => 4 | 5 => 5 | 167 => 248 | 37 => 191 | 0 => 0 | 85 => 249 | 2 => 2 | 168 => 251 | 53 => 178 | 175 => 273 | 46 => 190 | 210 => 276 | 127 => 236 | 145 => 297 | 143 => 295 | 21 => 21 | 171 => 278 | 173 => 280 | 212 => 299 | 51 => 188 | 20 => 20 | 213 => 300 | 232 => 309 | 233 => 310 | 80 => 200 | n => n, fun | 15 => 1 | 16 => 2 | 17 => 3 | 18 => 6 | 19 => 7 | n => n⟩
theorem Tryz.atoiL : Go.Proofs.Lays.n172 Tryz.prog Tryz.atoiL_ren := {
  mixed := by kernel_rfl
  f129 := Tryz.func166.trans (congrArg some (by kernel_rfl))
  f171 := Tryz.func118.trans (congrArg some (by kernel_rfl))
  f172 := Tryz.func117.trans (congrArg some (by kernel_rfl))
  f205 := Tryz.func218.trans (congrArg some (by kernel_rfl))
  f243 := Tryz.func155.trans (congrArg some (by kernel_rfl))
  f244 := Tryz.func153.trans (congrArg some (by kernel_rfl))
  f245 := Tryz.func154.trans (congrArg some (by kernel_rfl))
  f246 := Tryz.func195.trans (congrArg some (by kernel_rfl))
  f247 := Tryz.func190.trans (congrArg some (by kernel_rfl))
  f279 := Tryz.func191.trans (congrArg some (by kernel_rfl))
  f280 := Tryz.func192.trans (congrArg some (by kernel_rfl))
  f281 := Tryz.func193.trans (congrArg some (by kernel_rfl))
  f282 := Tryz.func194.trans (congrArg some (by kernel_rfl))
  f283 := Tryz.func219.trans (congrArg some (by kernel_rfl))
  f284 := Tryz.func220.trans (congrArg some (by kernel_rfl))
  f285 := Tryz.func221.trans (congrArg some (by kernel_rfl))
  f286 := Tryz.func222.trans (congrArg some (by kernel_rfl))
  f287 := Tryz.func216.trans (congrArg some (by kernel_rfl))
  f316 := Tryz.func217.trans (congrArg some (by kernel_rfl))
  f317 := Tryz.func240.trans (congrArg some (by kernel_rfl))
  f318 := Tryz.func241.trans (congrArg some (by kernel_rfl))
  f319 := Tryz.func242.trans (congrArg some (by kernel_rfl))
  f320 := Tryz.func243.trans (congrArg some (by kernel_rfl))
  f321 := Tryz.func238.trans (congrArg some (by kernel_rfl))
  f322 := Tryz.func239.trans (congrArg some (by kernel_rfl))
  f337 := Tryz.func253.trans (congrArg some (by kernel_rfl))
  f338 := Tryz.func254.trans (congrArg some (by kernel_rfl))
  t0 := Tryz.underlying0
  a0 := Tryz.isAgg0
  z0 := Tryz.sizeOf0
  v0 := Tryz.zeroValue0
  t2 := Tryz.underlying2
  a2 := Tryz.isAgg2
  z2 := Tryz.sizeOf2
  v2 := Tryz.zeroValue2
  t3 := Tryz.underlying3
  a3 := Tryz.isAgg3
  z3 := Tryz.sizeOf3
  v3 := Tryz.zeroValue3
  t4 := Tryz.underlying4
  a4 := Tryz.isAgg4
  z4 := Tryz.sizeOf4
  v4 := Tryz.zeroValue4
  t5 := Tryz.underlying5
  a5 := Tryz.isAgg5
  z5 := Tryz.sizeOf5
  v5 := Tryz.zeroValue5
  t9 := Tryz.underlying9
  a9 := Tryz.isAgg9
  z9 := Tryz.sizeOf9
  v9 := Tryz.zeroValue9
  t20 := Tryz.underlying20
  a20 := Tryz.isAgg20
  z20 := Tryz.sizeOf20
  v20 := Tryz.zeroValue20
  t21 := Tryz.underlying21
  a21 := Tryz.isAgg21
  z21 := Tryz.sizeOf21
  v21 := Tryz.zeroValue21
  t37 := Tryz.underlying191
  a37 := Tryz.isAgg191
  z37 := Tryz.sizeOf191
  v37 := Tryz.zeroValue191
  t46 := Tryz.underlying190
  a46 := Tryz.isAgg190
  z46 := Tryz.sizeOf190
  v46 := Tryz.zeroValue190
  t51 := Tryz.underlying188
  a51 := Tryz.isAgg188
  z51 := Tryz.sizeOf188
  v51 := Tryz.zeroValue188
  t53 := Tryz.underlying178
  a53 := Tryz.isAgg178
  z53 := Tryz.sizeOf178
  v53 := Tryz.zeroValue178
  t75 := Tryz.underlying184
  a75 := Tryz.isAgg184
  z75 := Tryz.sizeOf184
  v75 := Tryz.zeroValue184
  t76 := Tryz.underlying185
  a76 := Tryz.isAgg185
  z76 := Tryz.sizeOf185
  v76 := Tryz.zeroValue185
  t85 := Tryz.underlying249
  a85 := Tryz.isAgg249
  z85 := Tryz.sizeOf249
  v85 := Tryz.zeroValue249
  t127 := Tryz.underlying236
  a127 := Tryz.isAgg236
  z127 := Tryz.sizeOf236
  v127 := Tryz.zeroValue236
  t143 := Tryz.underlying295
  a143 := Tryz.isAgg295
  z143 := Tryz.sizeOf295
  v143 := Tryz.zeroValue295
  t145 := Tryz.underlying297
  a145 := Tryz.isAgg297
  z145 := Tryz.sizeOf297
  v145 := Tryz.zeroValue297
  t167 := Tryz.underlying248
  a167 := Tryz.isAgg248
  z167 := Tryz.sizeOf248
  v167 := Tryz.zeroValue248
  t168 := Tryz.underlying251
  a168 := Tryz.isAgg251
  z168 := Tryz.sizeOf251
  v168 := Tryz.zeroValue251
  t171 := Tryz.underlying278
  a171 := Tryz.isAgg278
  z171 := Tryz.sizeOf278
  v171 := Tryz.zeroValue278
  t173 := Tryz.underlying280
  a173 := Tryz.isAgg280
  z173 := Tryz.sizeOf280
  v173 := Tryz.zeroValue280
  t175 := Tryz.underlying273
  a175 := Tryz.isAgg273
  z175 := Tryz.sizeOf273
  v175 := Tryz.zeroValue273
  t210 := Tryz.underlying276
  a210 := Tryz.isAgg276
  z210 := Tryz.sizeOf276
  v210 := Tryz.zeroValue276
  t212 := Tryz.underlying299
  a212 := Tryz.isAgg299
  z212 := Tryz.sizeOf299
  v212 := Tryz.zeroValue299
  t213 := Tryz.underlying300
  a213 := Tryz.isAgg300
  z213 := Tryz.sizeOf300
  t232 := Tryz.underlying309
  a232 := Tryz.isAgg309
  z232 := Tryz.sizeOf309
  v232 := Tryz.zeroValue309
  t233 := Tryz.underlying310
  a233 := Tryz.isAgg310
  z233 := Tryz.sizeOf310
  v233 := Tryz.zeroValue310
  g15 := by kernel_rfl
  g16 := by kernel_rfl
  g17 := by kernel_rfl
  g18 := by kernel_rfl
  g19 := by kernel_rfl }
def Tryz.itoaL_ren : Go.Shelf.Ren := ⟨fun | 171 => 118 | 243 => 155 | 246 => 195 | 283 => 219 | 284 => 220 | 285 => 221 | 286 => 222 | 129 => 166 | 317 => 240 | 318 => 241 | 319 => 242 | 320 => 243 | 337 => 253 | 338 => 254 | n => n, fun | 3 => 3 | 9 => 9 | 2 => 2 | 4 => 4 | 171 => 278 | 0 => 0 | 53 => 178 | 37 => 191 | 5 => 5 | 173 => 280 | 212 => 299 | 51 => 188 | 20 => 20 | 213 => 300 | 46 => 190 | 232 => 309 | 233 => 310 | n => n, fun | 17 => 3 | 18 => 6 | 19 => 7 | n => n⟩
theorem Tryz.itoaL : Go.Proofs.LaysM.n171 Tryz.prog Tryz.itoaL_ren := {
  mixed := by kernel_rfl
  f129 := Tryz.func166.trans (congrArg some (by kernel_rfl))
  f171 := Tryz.func118.trans (congrArg some (by kernel_rfl))
  f243 := Tryz.func155.trans (congrArg some (by kernel_rfl))
  f246 := Tryz.func195.trans (congrArg some (by kernel_rfl))
  f283 := Tryz.func219.trans (congrArg some (by kernel_rfl))
  f284 := Tryz.func220.trans (congrArg some (by kernel_rfl))
  f285 := Tryz.func221.trans (congrArg some (by kernel_rfl))
  f286 := Tryz.func222.trans (congrArg some (by kernel_rfl))
  f317 := Tryz.func240.trans (congrArg some (by kernel_rfl))
  f318 := Tryz.func241.trans (congrArg some (by kernel_rfl))
  f319 := Tryz.func242.trans (congrArg some (by kernel_rfl))
  f320 := Tryz.func243.trans (congrArg some (by kernel_rfl))
  f337 := Tryz.func253.trans (congrArg some (by kernel_rfl))
  f338 := Tryz.func254.trans (congrArg some (by kernel_rfl))
  t0 := Tryz.underlying0
  a0 := Tryz.isAgg0
  z0 := Tryz.sizeOf0
  v0 := Tryz.zeroValue0
  t2 := Tryz.underlying2
  a2 := Tryz.isAgg2
  z2 := Tryz.sizeOf2
  v2 := Tryz.zeroValue2
  t3 := Tryz.underlying3
  a3 := Tryz.isAgg3
  z3 := Tryz.sizeOf3
  v3 := Tryz.zeroValue3
  t4 := Tryz.underlying4
  a4 := Tryz.isAgg4
  z4 := Tryz.sizeOf4
  v4 := Tryz.zeroValue4
  t5 := Tryz.underlying5
  a5 := Tryz.isAgg5
  z5 := Tryz.sizeOf5
  v5 := Tryz.zeroValue5
  t9 := Tryz.underlying9
  a9 := Tryz.isAgg9
  z9 := Tryz.sizeOf9
  v9 := Tryz.zeroValue9
  t20 := Tryz.underlying20
  a20 := Tryz.isAgg20
  z20 := Tryz.sizeOf20
  v20 := Tryz.zeroValue20
  t37 := Tryz.underlying191
  a37 := Tryz.isAgg191
  z37 := Tryz.sizeOf191
  v37 := Tryz.zeroValue191
  t46 := Tryz.underlying190
  a46 := Tryz.isAgg190
  z46 := Tryz.sizeOf190
  v46 := Tryz.zeroValue190
  t51 := Tryz.underlying188
  a51 := Tryz.isAgg188
  z51 := Tryz.sizeOf188
  v51 := Tryz.zeroValue188
  t53 := Tryz.underlying178
  a53 := Tryz.isAgg178
  z53 := Tryz.sizeOf178
  v53 := Tryz.zeroValue178
  t171 := Tryz.underlying278
  a171 := Tryz.isAgg278
  z171 := Tryz.sizeOf278
  v171 := Tryz.zeroValue278
  t173 := Tryz.underlying280
  a173 := Tryz.isAgg280
  z173 := Tryz.sizeOf280
  v173 := Tryz.zeroValue280
  t212 := Tryz.underlying299
  a212 := Tryz.isAgg299
  z212 := Tryz.sizeOf299
  v212 := Tryz.zeroValue299
  t213 := Tryz.underlying300
  a213 := Tryz.isAgg300
  z213 := Tryz.sizeOf300
  t232 := Tryz.underlying309
  a232 := Tryz.isAgg309
  z232 := Tryz.sizeOf309
  v232 := Tryz.zeroValue309
  t233 := Tryz.underlying310
  a233 := Tryz.isAgg310
  z233 := Tryz.sizeOf310
  v233 := Tryz.zeroValue310
  g17 := by kernel_rfl
  g18 := by kernel_rfl
  g19 := by kernel_rfl
  i0 := by kernel_rfl
  i2 := by kernel_rfl
  i3 := by kernel_rfl
  i4 := by kernel_rfl
  i5 := by kernel_rfl
  i9 := by kernel_rfl
  i20 := by kernel_rfl
  i37 := by kernel_rfl
  i46 := by kernel_rfl
  i51 := by kernel_rfl
  i53 := by kernel_rfl
  i171 := by kernel_rfl
  i173 := by kernel_rfl
  i212 := by kernel_rfl
  i232 := by kernel_rfl
  i233 := by kernel_rfl
  m17 := by kernel_rfl
  m18 := by kernel_rfl
  m19 := by kernel_rfl }
def Tryz.sortIL_ren : Go.Shelf.Ren := ⟨fun | 5 => 181 | 8 => 123 | 7 => 210 | 19 => 165 | 20 => 166 | 10 => 226 | 11 => 227 | 12 => 228 | 13 => 229 | 14 => 230 | 15 => 231 | 16 => 232 | 17 => 233 | 18 => 234 | 30 => 244 | 31 => 197 | 32 => 198 | 33 => 245 | 34 => 246 | 35 => 247 | 40 => 255 | n => n, fun | 23 => 70 | 25 => 3 | 3 => 3 | 32 => 190 | 22 => 70 | 0 => 0 | 44 => 188 | 46 => 178 | 4 => 4 | 36 => 227 | 35 => 226 | 41 => 156 | 5 => 5 | 9 => 9 | 53 => 255 | 57 => 259 | 63 => 282 | 64 => 283 | n => n, fun | n => n⟩
theorem Tryz.sortIL : Go.Proofs.SlLaysM.n5 Tryz.prog Tryz.sortIL_ren := {
  mixed := by kernel_rfl
  f5 := ⟨Tryz.f181.name, by decide, Tryz.func181.trans (congrArg some (by kernel_rfl))⟩
  f7 := ⟨Tryz.f210.name, by decide, Tryz.func210.trans (congrArg some (by kernel_rfl))⟩
  f8 := Tryz.func123.trans (congrArg some (by kernel_rfl))
  f10 := ⟨Tryz.f226.name, by decide, Tryz.func226.trans (congrArg some (by kernel_rfl))⟩
  f11 := ⟨Tryz.f227.name, by decide, Tryz.func227.trans (congrArg some (by kernel_rfl))⟩
  f12 := ⟨Tryz.f228.name, by decide, Tryz.func228.trans (congrArg some (by kernel_rfl))⟩
  f13 := ⟨Tryz.f229.name, by decide, Tryz.func229.trans (congrArg some (by kernel_rfl))⟩
  f14 := ⟨Tryz.f230.name, by decide, Tryz.func230.trans (congrArg some (by kernel_rfl))⟩
  f15 := ⟨Tryz.f231.name, by decide, Tryz.func231.trans (congrArg some (by kernel_rfl))⟩
  f16 := ⟨Tryz.f232.name, by decide, Tryz.func232.trans (congrArg some (by kernel_rfl))⟩
  f17 := ⟨Tryz.f233.name, by decide, Tryz.func233.trans (congrArg some (by kernel_rfl))⟩
  f18 := ⟨Tryz.f234.name, by decide, Tryz.func234.trans (congrArg some (by kernel_rfl))⟩
  f19 := Tryz.func165.trans (congrArg some (by kernel_rfl))
  f20 := Tryz.func166.trans (congrArg some (by kernel_rfl))
  f30 := ⟨Tryz.f244.name, by decide, Tryz.func244.trans (congrArg some (by kernel_rfl))⟩
  f31 := Tryz.func197.trans (congrArg some (by kernel_rfl))
  f32 := Tryz.func198.trans (congrArg some (by kernel_rfl))
  f33 := ⟨Tryz.f245.name, by decide, Tryz.func245.trans (congrArg some (by kernel_rfl))⟩
  f34 := ⟨Tryz.f246.name, by decide, Tryz.func246.trans (congrArg some (by kernel_rfl))⟩
  f35 := ⟨Tryz.f247.name, by decide, Tryz.func247.trans (congrArg some (by kernel_rfl))⟩
  f40 := ⟨Tryz.f255.name, by decide, Tryz.func255.trans (congrArg some (by kernel_rfl))⟩
  t0 := Tryz.underlying0
  a0 := Tryz.isAgg0
  z0 := Tryz.sizeOf0
  v0 := Tryz.zeroValue0
  t3 := Tryz.underlying3
  a3 := Tryz.isAgg3
  z3 := Tryz.sizeOf3
  v3 := Tryz.zeroValue3
  t4 := Tryz.underlying4
  a4 := Tryz.isAgg4
  z4 := Tryz.sizeOf4
  v4 := Tryz.zeroValue4
  t5 := Tryz.underlying5
  a5 := Tryz.isAgg5
  z5 := Tryz.sizeOf5
  v5 := Tryz.zeroValue5
  t9 := Tryz.underlying9
  a9 := Tryz.isAgg9
  z9 := Tryz.sizeOf9
  v9 := Tryz.zeroValue9
  t22 := Tryz.underlying70
  a22 := Tryz.isAgg70
  z22 := Tryz.sizeOf70
  v22 := Tryz.zeroValue70
  t23 := Tryz.underlying70
  a23 := Tryz.isAgg70
  z23 := Tryz.sizeOf70
  v23 := Tryz.zeroValue70
  t25 := Tryz.underlying3
  a25 := Tryz.isAgg3
  z25 := Tryz.sizeOf3
  v25 := Tryz.zeroValue3
  t32 := Tryz.underlying190
  a32 := Tryz.isAgg190
  z32 := Tryz.sizeOf190
  v32 := Tryz.zeroValue190
  t35 := Tryz.underlying226
  a35 := Tryz.isAgg226
  z35 := Tryz.sizeOf226
  v35 := Tryz.zeroValue226
  t36 := Tryz.underlying227
  a36 := Tryz.isAgg227
  z36 := Tryz.sizeOf227
  v36 := Tryz.zeroValue227
  t41 := Tryz.underlying156
  a41 := Tryz.isAgg156
  z41 := Tryz.sizeOf156
  v41 := Tryz.zeroValue156
  t44 := Tryz.underlying188
  a44 := Tryz.isAgg188
  z44 := Tryz.sizeOf188
  v44 := Tryz.zeroValue188
  t46 := Tryz.underlying178
  a46 := Tryz.isAgg178
  z46 := Tryz.sizeOf178
  v46 := Tryz.zeroValue178
  t53 := Tryz.underlying255
  a53 := Tryz.isAgg255
  z53 := Tryz.sizeOf255
  v53 := Tryz.zeroValue255
  t57 := Tryz.underlying259
  a57 := Tryz.isAgg259
  z57 := Tryz.sizeOf259
  v57 := Tryz.zeroValue259
  t63 := Tryz.underlying282
  a63 := Tryz.isAgg282
  z63 := Tryz.sizeOf282
  v63 := Tryz.zeroValue282
  t64 := Tryz.underlying283
  a64 := Tryz.isAgg283
  z64 := Tryz.sizeOf283
  v64 := Tryz.zeroValue283 }
def Tryz.repeatL_ren : Go.Shelf.Ren := ⟨fun | 105 => 132 | 212 => 174 | 99 => 70 | 165 => 175 | 166 => 126 | 170 => 176 | 169 => 127 | 263 => 206 | 264 => 207 | 206 => 121 | 240 => 170 | 241 => 208 | 276 => 203 | 277 => 225 | n => n, fun | 9 => 9 | 3 => 3 | 4 => 4 | 20 => 20 | 0 => 0 | 46 => 190 | 109 => 237 | 5 => 5 | 72 => 199 | 76 => 185 | 51 => 188 | 146 => 266 | 53 => 178 | 148 => 268 | 70 => 197 | 37 => 191 | 75 => 184 | 127 => 236 | 164 => 261 | 80 => 200 | n => n, fun | n => n⟩
theorem Tryz.repeatL : Go.Proofs.Lays.n105 Tryz.prog Tryz.repeatL_ren := {
  mixed := by kernel_rfl
  f99 := Tryz.func70.trans (congrArg some (by kernel_rfl))
  f105 := Tryz.func132.trans (congrArg some (by kernel_rfl))
  f165 := Tryz.func175.trans (congrArg some (by kernel_rfl))
  f166 := Tryz.func126.trans (congrArg some (by kernel_rfl))
  f169 := Tryz.func127.trans (congrArg some (by kernel_rfl))
  f170 := Tryz.func176.trans (congrArg some (by kernel_rfl))
  f206 := Tryz.func121.trans (congrArg some (by kernel_rfl))
  f212 := Tryz.func174.trans (congrArg some (by kernel_rfl))
  f240 := Tryz.func170.trans (congrArg some (by kernel_rfl))
  f241 := Tryz.func208.trans (congrArg some (by kernel_rfl))
  f263 := Tryz.func206.trans (congrArg some (by kernel_rfl))
  f264 := Tryz.func207.trans (congrArg some (by kernel_rfl))
  f276 := Tryz.func203.trans (congrArg some (by kernel_rfl))
  f277 := Tryz.func225.trans (congrArg some (by kernel_rfl))
  t0 := Tryz.underlying0
  a0 := Tryz.isAgg0
  z0 := Tryz.sizeOf0
  v0 := Tryz.zeroValue0
  t3 := Tryz.underlying3
  a3 := Tryz.isAgg3
  z3 := Tryz.sizeOf3
  v3 := Tryz.zeroValue3
  t4 := Tryz.underlying4
  a4 := Tryz.isAgg4
  z4 := Tryz.sizeOf4
  v4 := Tryz.zeroValue4
  t5 := Tryz.underlying5
  a5 := Tryz.isAgg5
  z5 := Tryz.sizeOf5
  v5 := Tryz.zeroValue5
  t9 := Tryz.underlying9
  a9 := Tryz.isAgg9
  z9 := Tryz.sizeOf9
  v9 := Tryz.zeroValue9
  t20 := Tryz.underlying20
  a20 := Tryz.isAgg20
  z20 := Tryz.sizeOf20
  v20 := Tryz.zeroValue20
  t37 := Tryz.underlying191
  a37 := Tryz.isAgg191
  z37 := Tryz.sizeOf191
  v37 := Tryz.zeroValue191
  t46 := Tryz.underlying190
  a46 := Tryz.isAgg190
  z46 := Tryz.sizeOf190
  v46 := Tryz.zeroValue190
  t51 := Tryz.underlying188
  a51 := Tryz.isAgg188
  z51 := Tryz.sizeOf188
  v51 := Tryz.zeroValue188
  t53 := Tryz.underlying178
  a53 := Tryz.isAgg178
  z53 := Tryz.sizeOf178
  v53 := Tryz.zeroValue178
  t70 := Tryz.underlying197
  a70 := Tryz.isAgg197
  z70 := Tryz.sizeOf197
  v70 := Tryz.zeroValue197
  t72 := Tryz.underlying199
  a72 := Tryz.isAgg199
  z72 := Tryz.sizeOf199
  v72 := Tryz.zeroValue199
  t75 := Tryz.underlying184
  a75 := Tryz.isAgg184
  z75 := Tryz.sizeOf184
  v75 := Tryz.zeroValue184
  t76 := Tryz.underlying185
  a76 := Tryz.isAgg185
  z76 := Tryz.sizeOf185
  v76 := Tryz.zeroValue185
  t109 := Tryz.underlying237
  a109 := Tryz.isAgg237
  z109 := Tryz.sizeOf237
  v109 := Tryz.zeroValue237
  t127 := Tryz.underlying236
  a127 := Tryz.isAgg236
  z127 := Tryz.sizeOf236
  v127 := Tryz.zeroValue236
  t146 := Tryz.underlying266
  a146 := Tryz.isAgg266
  z146 := Tryz.sizeOf266
  v146 := Tryz.zeroValue266
  t148 := Tryz.underlying268
  a148 := Tryz.isAgg268
  z148 := Tryz.sizeOf268
  v148 := Tryz.zeroValue268
  t164 := Tryz.underlying261
  a164 := Tryz.isAgg261
  z164 := Tryz.sizeOf261
  v164 := Tryz.zeroValue261 }
def Tryz.compareL_ren : Go.Shelf.Ren := ⟨fun | 106 => 189 | 213 => 215 | 265 => 237 | n => n, fun | 9 => 9 | 3 => 3 | n => n, fun | n => n⟩
theorem Tryz.compareL : Go.Proofs.Lays.n106 Tryz.prog Tryz.compareL_ren := {
  mixed := by kernel_rfl
  f106 := Tryz.func189.trans (congrArg some (by kernel_rfl))
  f213 := Tryz.func215.trans (congrArg some (by kernel_rfl))
  f265 := Tryz.func237.trans (congrArg some (by kernel_rfl))
  t3 := Tryz.underlying3
  a3 := Tryz.isAgg3
  z3 := Tryz.sizeOf3
  v3 := Tryz.zeroValue3
  t9 := Tryz.underlying9
  a9 := Tryz.isAgg9
  z9 := Tryz.sizeOf9
  v9 := Tryz.zeroValue9 }
end Go.Proofs

/- What is proved: 'slices.Sorted(maps.Keys(m))' gives the keys, rising. Conditions: the map is not nil, its keys and their number are bounded. -/
namespace Go.Proofs.YtobfdeiimnnanaaGreatDoor
open Go Go.J Go.RowKit Go.Maps Go.Sort Go.Shelf
def anyR : Value → Option (DataW Unit × List MemPlace) := fun _ => some (.nil, [])
theorem own_of_map {P : Program} {k : TypeId} {b : Nat} {m : KV} {w : World} (hk : P.underlying k = some .string) (h : MapIs b m w) (hl : m.length ≤ maxLen) (hkl : ∀ p ∈ m, p.1.length ≤ maxLen) :
    ∃ D0 : DataW Unit, w.ownsMap P k anyR b m.length D0 ∧ (strKeys D0).Perm (m.map Prod.fst) ∧ Maps.size D0 = m.length := by
  obtain ⟨hnd, es, clock, hb, hkv, hbn, hbc⟩ := h
  have hlen : es.length = m.length := by have := congrArg List.length hkv; simpa [kvs, kvm] using this
  have hkeys : es.map (·.key) = m.map fun p => str p.1 := by
    have := congrArg (List.map Prod.fst) hkv
    simpa [kvs, kvm, List.map_map, Function.comp_def] using this
  have hrd : ∀ x ∈ es, ∃ s, x.key = str s ∧ WideElems.rd P k anyR x = some (.string s, .nil) := fun x hx => by
    have hm : x.key ∈ es.map (·.key) := List.mem_map_of_mem hx
    rw [hkeys] at hm
    obtain ⟨p, hp, he⟩ := List.mem_map.1 hm
    refine ⟨p.1, he.symm, ?_⟩
    unfold WideElems.rd
    rw [← he, WideMaps.keyOf_string_mk hk (show (⟨⟨p.1⟩⟩ : ByteArray).size ≤ maxLen from by rw [size_mk]; exact hkl p hp)]
    rfl
  refine ⟨.map ((es.map (WideElems.rg P k anyR)).foldr DataW.insert []), ⟨⟨es⟩, clock, hb, ⟨by simpa [hlen] using hl, ⟨by simpa using hbc, by simpa using hbn, ?_⟩, fun x hx => ?_⟩, by simp [hlen], rfl⟩, ?_, ?_⟩
  · simp only
    rw [hkeys]
    have : (m.map fun p => str p.1) = (m.map Prod.fst).map str := by simp [List.map_map, Function.comp_def]
    rw [this]
    refine List.Pairwise.map (S := fun a b => a ≠ b) str (fun a b h e => h ?_) hnd
    simpa [str] using e
  · obtain ⟨s, _, h2⟩ := hrd x (by simpa using hx)
    exact ⟨_, h2⟩
  · have hp : ((es.map (WideElems.rg P k anyR)).foldr DataW.insert []).Perm (es.map (WideElems.rg P k anyR)) := Go.WideShapes.sorted_perm _
    refine (hp.map fun p => strOf p.1).trans ?_
    rw [List.map_map]
    have e : es.map ((fun p => strOf p.1) ∘ WideElems.rg P k anyR) = m.map Prod.fst := by
      have h1 : (es.map fun x => x.key) = ((m.map Prod.fst).map str) := by rw [hkeys]; simp [List.map_map, Function.comp_def]
      have h2 : ∀ x ∈ es, str (((fun p => strOf p.1) ∘ WideElems.rg P k anyR) x) = x.key := fun x hx => by
        obtain ⟨s, h1, h2⟩ := hrd x hx
        simp only [Function.comp_def, WideElems.rg, h2, Option.getD_some, strOf, h1]
      have h3 : (es.map ((fun p => strOf p.1) ∘ WideElems.rg P k anyR)).map str = (m.map Prod.fst).map str := by
        rw [← h1, List.map_map]
        exact List.map_congr_left h2
      exact (List.map_inj_right (f := str) (fun a b h => by simpa [str] using h)).1 h3
    rw [e]
  · have hp : ((es.map (WideElems.rg P k anyR)).foldr DataW.insert []).Perm (es.map (WideElems.rg P k anyR)) := Go.WideShapes.sorted_perm _
    have := hp.length_eq
    rw [List.length_map] at this
    rw [← hlen, ← this]
    rfl
theorem sortsL (m : Nat) : AnyZ.SortsIn Tryz.prog Tryz.sortedL_ren Fence.wide m :=
  ⟨fun blk off cap ss W hH hblk hsz => callsIn_wide.2 (AnyM.slices_Sort_string Tryz.sortL blk off cap ss W hH hblk hsz),
   fun p cap W => callsIn_wide.2 (AnyM.slices_Sort_string_none Tryz.sortL p cap W)⟩
end Go.Proofs.YtobfdeiimnnanaaGreatDoor

/- What is proved: 'slices.Sorted(maps.Keys(m))' gives the keys, rising. Conditions: the map is not nil, its keys and their number are bounded. -/
namespace Go.Proofs.YtobfdeiimnnanaaGreatDoor
open Go Go.J Go.RowKit Go.Maps Go.Sort Go.Shelf
def keysVT : TypeId := Tryz.keysVL_ren.t 23
theorem mapsKeysV_c (mb : Nat) (w : World) : Cal Tryz.prog 129 [.map (some mb)] w fun v w' => v = .func (.func 172) ⟨[]⟩ ⟨[.pointer (some ⟨w.heap.size, 0, none⟩)]⟩ ∧ w' = w.alloc (.cells ⟨[.map (some mb)]⟩ keysVT) :=
  ⟨by kernel_rfl, (callsIn_wide.1 (AnyZ.keys_in Tryz.keysVL Fence.wide 5 trivial rfl (some mb) w)).mono fun e w' ⟨h1, h2⟩ => ⟨_, h1, rfl, h2⟩⟩
theorem mapsKeysV_n (mb : Nat) (w : World) : Cal Tryz.prog 129 [.map (some mb)] w fun v w' => ∃ x, v = .func (.func 172) ⟨[]⟩ ⟨[.pointer (some ⟨x, 0, none⟩)]⟩ ∧ Upd [] w w' ∧ New w w' (.box x keysVT [.map (some mb)]) :=
  (mapsKeysV_c mb w).mono fun v w' ⟨h1, h2⟩ => by
    subst h2
    have hh := heap_alloc_new w (.cells ⟨[.map (some mb)]⟩ keysVT)
    exact ⟨_, h1, .alloc _ _ _, ⟨hh, fun b hb => by simp [Chunk.fp] at hb; subst hb; simp⟩⟩
theorem sortedV_c {x mb : Nat} {m : KV} {w : World} (hx : w.heap[x]? = some (.cells ⟨[.map (some mb)]⟩ keysVT (0, 0))) (hm : MapIs mb m w) (hl : m.length ≤ 1048576) (hkl : ∀ p ∈ m, p.1.length ≤ 1099511627776) :
    Cal Tryz.prog 128 [.func (.func 172) ⟨[]⟩ ⟨[.pointer (some ⟨x, 0, none⟩)]⟩] w fun v w' => Upd [] w w' ∧ ∃ A cap, v = .slice A m.length cap ∧
      New w w' (.own (.slice A m.length cap) 9 1 m.length (strs ((m.map Prod.fst).mergeSort (fun x y => decide (x ≤ y))))) := by
  have hmx : m.length ≤ maxLen := by unfold maxLen; omega
  obtain ⟨D0, hown, hperm, hsz⟩ := own_of_map Tryz.underlying9 hm hmx (fun p hp => by have := hkl p hp; unfold maxLen; omega)
  have hxl : x < w.heap.size := (Array.getElem?_eq_some_iff.1 hx).1
  have hseq : SeqGives Fence.wide 2 Tryz.prog 172 #[.pointer (some ⟨x, 0, none⟩)] encStr (fun ss => ss.Perm (strKeys D0)) (Maps.size D0) w :=
    AnyZ.keys_gives (ρ := Tryz.keysVL_ren) { Tryz.keysVL with } Fence.wide _ trivial rfl (by omega) x mb m.length D0 _ hxl (by rw [cell_of_row w x 0 _ _ _ hx]; rfl) hown
  have cS := AnyZ.sorted_in Tryz.sortedL Fence.wide 5 trivial trivial trivial trivial rfl (by omega) (sortsL _) (enters_of Tryz.func71 (by kernel_rfl) rfl) 172 #[.pointer (some ⟨x, 0, none⟩)] trivial (enters_of Tryz.func172 (by kernel_rfl) rfl) _ _ (by rw [hsz]; exact hmx) (by rw [hsz]; omega) _ hseq
  change CallsIn _ _ Tryz.prog 128 _ _ _ at cS
  refine ⟨by kernel_rfl, (callsIn_wide.1 cS).mono fun e w' ⟨v, ss, he, hS, hrow, hnil, hb⟩ => ⟨v, he, .of_below hb, ?_⟩⟩
  have hp : ss.Perm (m.map Prod.fst) := hS.trans hperm
  have hlen : ss.length = m.length := by rw [hp.length_eq, List.length_map]
  have hms : ss.mergeSort (fun x y => decide (x ≤ y)) = (m.map Prod.fst).mergeSort (fun x y => decide (x ≤ y)) := mergeSort_of_perm hp
  rw [hms, hlen] at hrow
  have hst : ((m.map Prod.fst).mergeSort (fun x y => decide (x ≤ y))).map encStr = strs ((m.map Prod.fst).mergeSort (fun x y => decide (x ≤ y))) := by
    generalize (m.map Prod.fst).mergeSort (fun x y => decide (x ≤ y)) = l
    induction l with
    | nil => rfl
    | cons a l ih => simp only [List.map_cons, ih]; rfl
  rw [hst] at hrow
  have hrow' := hrow
  rcases hrow.2 with ⟨rfl, hz⟩ | ⟨g, cap, cur, rfl, hg, hh, _⟩
  · refine ⟨none, 0, by rw [hz], ⟨?_, fun b hb => by simp [Chunk.fp, Value.ownBlock] at hb⟩⟩
    have := RowAt.of_owns hrow
    rwa [hz] at this ⊢
  · exact ⟨_, _, rfl, ⟨RowAt.of_owns hrow', fun b hb => by
      simp [Chunk.fp, Value.ownBlock] at hb
      subst hb
      exact ⟨hg, (Array.getElem?_eq_some_iff.1 hh).1⟩⟩⟩
end Go.Proofs.YtobfdeiimnnanaaGreatDoor

/- What is proved: what packing a table does. Conditions: no limit at the disk, texts of bounded length. -/
namespace Go.Proofs.YtobfdeiimnnanaaGreatDoor
open Go Go.J Go.RowKit
def keysE {β : Type} (m : List (List UInt8 × β)) : List (List UInt8) := (m.map Prod.fst).mergeSort (fun x y => decide (x ≤ y))
theorem keysE_len {β : Type} (m : List (List UInt8 × β)) : (keysE m).length = m.length := by unfold keysE; rw [List.length_mergeSort, List.length_map]
def rowOp (rows : Rws) (k : List UInt8) : Chg := ⟨k, (mget rows k).getD [], false⟩
def packL (rows : Rws) : List Chg := (keysE rows).map (rowOp rows)
def tabPack (T : Tb) (D : Dk) : Int × Tb × Dk :=
  if (D.fill (baseP T.dir) (packE (recordE (packL T.rows)))).1 ≠ 0 then ((D.fill (baseP T.dir) (packE (recordE (packL T.rows)))).1, T, (D.fill (baseP T.dir) (packE (recordE (packL T.rows)))).2)
  else (((D.fill (baseP T.dir) (packE (recordE (packL T.rows)))).2.fill T.log.p []).1, { T with log := T.log.reset ((D.fill (baseP T.dir) (packE (recordE (packL T.rows)))).2.fill T.log.p []).1 }, ((D.fill (baseP T.dir) (packE (recordE (packL T.rows)))).2.fill T.log.p []).2)
set_option maxHeartbeats 16000000 in
set_option maxRecDepth 100000 in
theorem tpack_c {Tp q mb lb : Nat} {D D' : Dk} {T T' : Tb} {fp : List Nat} {w0 : World} {e : Int} (hi : InL w0 [tabC Tp q T fp, dkC q mb lb D]) (hu : tabPack T D = (e, T', D')) (hl : T.dir.length ≤ 1099511000) (hlg : T.log.p.length ≤ 1099511620) (hno : D.Sm 1099511627776)
    (hr : (recordE (packL T.rows)).length ≤ 549755813888) (hn : T.rows.length ≤ 1048576) (hk : ∀ p ∈ T.rows, p.1.length ≤ 1099511627776) :
    Cal Tryz.prog 81 [.pointer (some ⟨Tp, 0, none⟩)] w0
      (fun v w' => v = .int .i64 e ∧ ∃ fp', MutL w0 w' [tabC Tp q T fp, dkC q mb lb D] [tabC Tp q T' fp', dkC q mb lb D']) := by
  refine Cal.mkL hi (by kernel_rfl) Tryz.func81 rfl rfl fun hS => ?_
  obtain ⟨_, ⟨m, L, fpl, rfl⟩, hfp, hS⟩ := St.objOpen hS
  replace hS : St w0 (fps [tabC Tp q T fp, dkC q mb lb D]) w0 [tbB Tp (some ⟨q, 0, none⟩) T.dir (some ⟨L, 0, none⟩) m, rowsC m T.rows, lgC L q T.log fpl, dkC q mb lb D] (ZL w0 [tabC Tp q T fp, dkC q mb lb D]) := hS
  obtain ⟨dir, rows, G⟩ := T
  dsimp only at hl hlg hr hn hk hS hu
  have hpkl := packE_len (recordE (packL rows))
  have hpn := putN_len10 (n := (recordE (packL rows)).length) (by omega)
  have hk7 : ([47, 98, 97, 115, 101, 95, 116] : List UInt8).length = 7 := rfl
  have hk5 : ([47, 98, 97, 115, 101] : List UInt8).length = 5 := rfl
  obtain ⟨t, ht⟩ : ∃ t, t = baseP dir ++ [95, 116] := ⟨_, rfl⟩
  have htl : t.length ≤ 1099511627 := by rw [ht]; simp; omega
  have hbt : dir ++ [47, 98, 97, 115, 101, 95, 116] = t := by rw [ht]; simp
  rcases h1 : D.write t (packE (recordE (packL rows))) with ⟨e1, D1⟩
  rcases h2 : D1.sync t with ⟨e2, D2⟩
  rcases h3 : D2.rename t (baseP dir) with ⟨e3, D3⟩
  rcases h4 : D3.fill G.p [] with ⟨e4, D4⟩
  have m1 : D1.Sm 1099511627776 := by have := hno.write (p := t) (s := packE (recordE (packL rows))) (by omega); rwa [h1] at this
  have m2 : D2.Sm 1099511627776 := by have := m1.sync (p := t); rwa [h2] at this
  have m3 : D3.Sm 1099511627776 := by have := m2.rename (p := t) (r := baseP dir); rwa [h3] at this
  have hu : (if e1 ≠ 0 then (e1, ⟨dir, rows, G⟩, D1) else if e2 ≠ 0 then (e2, ⟨dir, rows, G⟩, D2) else if e3 ≠ 0 then (e3, ⟨dir, rows, G⟩, D3) else (e4, ⟨dir, rows, G.reset e4⟩, D4)) = (e, T', D') := by
    have hf : D.fill (baseP dir) (packE (recordE (packL rows))) = if e1 ≠ 0 then (e1, D1) else if e2 ≠ 0 then (e2, D2) else (e3, D3) := by unfold Dk.fill; rw [← ht, h1]; dsimp only; rw [h2]; dsimp only; rw [h3]
    rw [← hu]
    unfold tabPack
    dsimp only
    rw [hf]
    by_cases c1 : e1 = 0
    · rw [if_neg (fun h => h c1), if_neg (fun h : e1 ≠ 0 => h c1)]
      by_cases c2 : e2 = 0
      · rw [if_neg (fun h => h c2), if_neg (fun h : e2 ≠ 0 => h c2)]
        dsimp only
        rw [h4]
      · rw [if_pos c2, if_pos c2, if_pos c2]
    · rw [if_pos c1, if_pos c1, if_pos c1]
  have hks : ∀ w0 x, w0.heap[x]? = some (.cells ⟨[.map (some m)]⟩ keysVT (0, 0)) → MapIs m (mmap encRow rows) w0 → Cal Tryz.prog 128 [.func (.func 172) ⟨[]⟩ ⟨[.pointer (some ⟨x, 0, none⟩)]⟩] w0 fun v w' => Upd [] w0 w' ∧ ∃ A cap, v = .slice A (keysE rows).length cap ∧
      New w0 w' (.own (.slice A (keysE rows).length cap) 9 1 (keysE rows).length (strs (keysE rows))) := fun w0 x hx hm => by
    have h := sortedV_c hx hm (by unfold mmap; rw [List.length_map]; omega) (fun p hp => by
      obtain ⟨y, hy, rfl⟩ := List.mem_map.1 hp
      exact hk y hy)
    have e1 : (mmap encRow rows).map Prod.fst = rows.map Prod.fst := by unfold mmap; rw [List.map_map]; rfl
    have e2 : (mmap encRow rows).length = rows.length := by unfold mmap; rw [List.length_map]
    rw [e1, e2] at h
    rw [keysE_len]
    exact h
  have hkl := keysE_len rows
  have hfin : ∀ (l : List (List UInt8)), l = keysE rows → l.map (rowOp rows) = packL rows := fun l h => by rw [h]; rfl
  repeat' (first | (show WL _ _ _ _ _ _ _; first | refine WL.pure rfl rfl rfl rfl ?_ | refine WL.nil ?_ | refine WL.load hS rfl rfl (LdOk.box Mm rfl) rfl rfl rfl ?_ | (refine WL.slit (t := 106) hS rfl rfl rfl rfl rfl ?_; intro w ob hS; have hS := hS.boxRow (n := 0) (size := 3) .here rfl (Nat.zero_le _)) | (refine WL.callG rfl rfl (mapsKeysV_n m _) rfl rfl rfl ?_; rintro v w ⟨x, rfl, hup, hnew⟩; have hS := hS.new hup hnew; clear hup hnew) | (refine WL.callG rfl rfl (hks _ _ (hS.holds _ (List.Mem.head _)) (hS.holds (rowsC m rows) Mm).1) rfl rfl rfl ?_; rintro v w ⟨hup, A, cap, rfl, hnew⟩; have hS := hS.new hup hnew; clear hup hnew)) | (show WC _ _ _ _ _ _; first | refine WC.seq ?_ | refine WC.region ?_ | refine WC.block ?_ | refine WC.skip ?_ | refine WC.condF rfl (by with_reducible rfl) ?_) | refine seqQ_n ?_)
  replace hS := hS.droplast2 (D := [.own (.slice (some ⟨ob, 0, none⟩) 0 0) 134 3 0 [], .own (.slice A (keysE rows).length cap) 9 1 (keysE rows).length (strs (keysE rows)), tbB Tp (some ⟨q, 0, none⟩) dir (some ⟨L, 0, none⟩) m, rowsC m rows, lgC L q G fpl, dkC q mb lb D]) Pu
  refine WC.loop (σ := Nat × List Chg × Option Addr × Nat) [0, 18, 19] (fun (k, l, A2, cap2) => [(3, .slice A2 l.length cap2), (20, .int .i64 (k : Int))])
    (fun (k, l, A2, cap2) w => k ≤ (keysE rows).length ∧ l = ((keysE rows).take k).map (rowOp rows) ∧ St w0 (fps [tabC Tp q ⟨dir, rows, G⟩ fp, dkC q mb lb D]) w [.own (.slice A2 l.length cap2) 134 3 l.length (chgs l), .own (.slice A (keysE rows).length cap) 9 1 (keysE rows).length (strs (keysE rows)), tbB Tp (some ⟨q, 0, none⟩) dir (some ⟨L, 0, none⟩) m, rowsC m rows, lgC L q G fpl, dkC q mb lb D] (ZL w0 [tabC Tp q ⟨dir, rows, G⟩ fp, dkC q mb lb D]))
    (fun (k, _) => (keysE rows).length - k) (0, [], some ⟨ob, 0, none⟩, 0) ⟨Nat.zero_le _, rfl, hS⟩ ⟨rfl, rfl, trivial⟩ ?_
  clear hS hks
  rintro ⟨k, l, A2, cap2⟩ g w ⟨hkk, hleq, hS⟩
  show WC _ _ _ (lf _ [(3, .slice A2 l.length cap2), (20, .int .i64 (k : Int))] _ _) _ _
  have hcap2 := (hS.own_len (List.Mem.head _)).2.2
  have hll : l.length = k := by rw [hleq, List.length_map, List.length_take]; omega
  by_cases hlt : k < (keysE rows).length
  · clear hu h1 h2 h3 h4 m1 m2 m3 hk
    have hx : (strs (keysE rows))[k * 1]? = some (str (keysE rows)[k]) := by rw [Nat.mul_one]; exact strs_at hlt
    have hnext : ((keysE rows).take (k + 1)).map (rowOp rows) = l ++ [rowOp rows (keysE rows)[k]] := by rw [List.take_succ_eq_append_getElem hlt, List.map_append, ← hleq]; rfl
    generalize (keysE rows)[k] = key at *
    have hlk := look_row1 rows key
    have hro : rowOp rows key = ⟨key, (mget rows key).getD [], false⟩ := rfl
    rw [hro] at hnext
    generalize (mget rows key).getD [] = val at *
    clear hleq hfin
    obtain ⟨rg, ro, rfl⟩ := hS.own_addr (List.Mem.tail _ (List.Mem.head _)) (Nat.lt_of_le_of_lt (Nat.zero_le k) hlt)
    repeat' (first | (show WL _ _ _ _ _ _ _; first | refine WL.pure rfl rfl rfl rfl ?_ | refine WL.nil ?_ | refine WL.load hS rfl rfl (LdOk.box Mm rfl) rfl rfl rfl ?_ | refine WL.add rfl rfl rfl (by omega) rfl rfl rfl ?_ | (refine WL.load hS rfl rfl (LdOk.ownAt Mm rfl ⟨_, rfl⟩ hx rfl) rfl rfl rfl ?_) | (refine WL.mget hS rfl rfl rfl rfl (.mk' Mm) hlk rfl rfl rfl ?_) | (refine WL.app hS rfl rfl rfl rfl (RdOk.box Mm) rfl rfl (fun A cap => Rp) (by omega) rfl rfl rfl ?_; intro A3 cap3 w hS) | refine WL.index rfl rfl rfl rfl (by first | with_reducible assumption | omega) rfl rfl rfl rfl ?_ | refine WL.build rfl rfl rfl rfl rfl ?_ | (refine WL.slit hS rfl rfl rfl rfl rfl ?_; intro w b hS)) | (show WC _ _ _ _ _ _; first | refine WC.seq ?_ | refine WC.region ?_ | refine WC.block ?_ | refine WC.skip ?_ | refine WC.condT rfl (decide_eq_true (by first | with_reducible assumption | omega)) ?_) | refine seqQ_n ?_ | refine blkQ_n ?_)
    exact rndQ_n (k + 1, l ++ [⟨key, val, false⟩], A3, cap3) ⟨by omega, hnext.symm, by
      have hS := hS.drop
      rw [List.length_append, ← chgs_snoc]
      exact hS⟩ (by show (keysE rows).length - (k + 1) < (keysE rows).length - k; omega) ⟨by rw [List.length_append]; rfl, vint (by omega), trivial⟩ ⟨rfl, rfl, rfl, trivial⟩
  · have hke : k = (keysE rows).length := by omega
    subst hke
    rw [List.take_length] at hleq
    obtain rfl : l = packL rows := hleq
    have hpl : (packL rows).length ≤ 1099511627776 := by omega
    clear hfin hk
    repeat' (first | (show WL _ _ _ _ _ _ _; first | refine WL.pure rfl rfl rfl rfl ?_ | refine WL.nil ?_ | refine WL.load hS rfl rfl (LdOk.box Mm rfl) rfl rfl rfl ?_ | (refine WL.cat rfl rfl rfl (by omega) rfl rfl rfl ?_; rw [hbt]) | (refine WL.callL (D := [dkC q mb lb D1]) hS Pu rfl rfl (fun hI => sync_c t hI.head hI.headB htl) rfl rfl rfl ?_; rintro v w ⟨rfl, hm⟩ hS; rw [h2] at hm ⊢; replace hS := hS _ (.of1 hm); clear hm) | (refine WL.callL (D := [lgC L q G fpl, dkC q mb lb D3]) hS Pu rfl rfl (fun hI => reset_c hI h4 hlg m3) rfl rfl rfl ?_; rintro v w ⟨rfl, fpl2, hm⟩ hS; replace hS := hS _ hm; clear hm)) | (show WC _ _ _ _ _ _; first | refine WC.seq ?_ | refine WC.region ?_ | refine WC.skip ?_ | refine WC.exit ?_ | refine WC.ret ?_ | (show WC _ _ (Code.region _ (List.toArray [_, _, _, _, _, _, _, _, _, _]) true) _ _ _; refine WC.drawL [dkC q mb lb D] hS Pu [0,1,2,3,4,5,9] [0,1,2,3,4,5,6,7,8,9] (by kernel_rfl) (by kernel_rfl) ?_; clear hS; intro w hS hM) | (show WC _ _ (Code.region _ (List.toArray [_, _, _, _, _, _, _, _, _, _, _, _]) true) _ _ _; refine WC.drawL [dkC q mb lb D2] hS Pu [0,1,2,3,4,5,6,7,8,9,11] [0,1,2,3,4,5,6,7,8,9,10,11] (by kernel_rfl) (by kernel_rfl) ?_; clear hS; intro w hS hM) | refine WC.condF rfl (decide_eq_false (by first | with_reducible assumption | omega)) ?_ | (refine WC.cond rfl (fun h => ?_) (fun h => ?_) <;> (try simp only [ZZ0, ZZ1, ZZ2, ZZ3, ZZ4, ZZ5, ZZ6, ZZ7, ZZ8, ZZ9, ZZ10, ZZ11, ZZ12, ZZ13, ZZ14, ZZ15] at h) <;> (try (exfalso; first | omega | contradiction)))) | (show WD _ _ _ _ _ _ _ _ _; first | refine WD.pure rfl rfl rfl rfl rfl ?_ | refine WD.nil ?_ | refine WD.load rfl rfl (LdOk.box Mm rfl) rfl rfl rfl rfl ?_ | (refine WD.cat rfl rfl rfl (by omega) rfl rfl rfl rfl ?_) | (refine WD.calls hS hM rfl rfl (record_c (packL rows) (St.ownSl (by decide) hS Mm) (by omega) hpl) rfl rfl rfl rfl rfl ?_; clear hS; rintro v w rfl hS) | (refine WD.calls hS hM rfl rfl (pack_c (recordE (packL rows)) _ (by omega)) rfl rfl rfl rfl rfl ?_; clear hS; rintro v w rfl hS) | (refine WD.callL (D := [dkC q mb lb D]) hS Pu (.refl _ _) rfl rfl (fun hI => write_c t (packE (recordE (packL rows))) hI.head hI.headB htl (hno.no _) (by omega) (hno.at_ _)) rfl rfl rfl rfl rfl ?_; rintro v w ⟨rfl, hm⟩; rw [h1] at hm ⊢; refine ⟨_, .of1 hm, fun hS hM => ?_⟩; clear hm) | (refine WD.callL (D := [dkC q mb lb D2]) hS Pu (.refl _ _) rfl rfl (fun hI => rename_c t (baseP dir) hI.head hI.headB htl (by rw [List.length_append]; omega) (m2.no _) (m2.at_ _) (m2.at_ _)) rfl rfl rfl rfl rfl ?_; rintro v w ⟨rfl, hm⟩; rw [h3] at hm ⊢; refine ⟨_, .of1 hm, fun hS hM => ?_⟩; clear hm)) | refine seqQ_n ?_ | refine seqQ_x ?_ | refine seqQ_r ?_ | refine blkQ_hit rfl ?_ | refine rndQ_x ?_)
    · rw [if_pos h] at hu
      cases hu
      have hS := St.objClose (φ := tabφ Tp q ⟨dir, rows, G⟩) (hS.pulls (D := [tbB Tp (some ⟨q, 0, none⟩) dir (some ⟨L, 0, none⟩) m, rowsC m rows, lgC L q G fpl]) Pu) ⟨m, L, fpl, rfl⟩
      exact fin1r rfl rfl ⟨rfl, _, hS.mutLp Pu⟩
    · rw [if_neg (fun hh => hh (by assumption)), if_pos h] at hu
      cases hu
      have hS := St.objClose (φ := tabφ Tp q ⟨dir, rows, G⟩) (hS.pulls (D := [tbB Tp (some ⟨q, 0, none⟩) dir (some ⟨L, 0, none⟩) m, rowsC m rows, lgC L q G fpl]) Pu) ⟨m, L, fpl, rfl⟩
      exact fin1r rfl rfl ⟨rfl, _, hS.mutLp Pu⟩
    · rw [if_neg (fun hh => hh (by assumption)), if_neg (fun hh => hh (by assumption)), if_pos h] at hu
      cases hu
      have hS := St.objClose (φ := tabφ Tp q ⟨dir, rows, G⟩) (hS.pulls (D := [tbB Tp (some ⟨q, 0, none⟩) dir (some ⟨L, 0, none⟩) m, rowsC m rows, lgC L q G fpl]) Pu) ⟨m, L, fpl, rfl⟩
      exact fin1r rfl rfl ⟨rfl, _, hS.mutLp Pu⟩
    · rw [if_neg (fun hh => hh (by assumption)), if_neg (fun hh => hh (by assumption)), if_neg (fun hh => hh (by assumption))] at hu
      cases hu
      have hS := St.objClose (φ := tabφ Tp q ⟨dir, rows, G.reset e⟩) (hS.pulls (D := [tbB Tp (some ⟨q, 0, none⟩) dir (some ⟨L, 0, none⟩) m, rowsC m rows, lgC L q (G.reset e) fpl2]) Pu) ⟨m, L, fpl2, rfl⟩
      exact fin1r rfl rfl ⟨rfl, _, hS.mutLp Pu⟩
end Go.Proofs.YtobfdeiimnnanaaGreatDoor

/- What is proved: what committing a batch does. Conditions: no limit at the disk, texts of bounded length. -/
namespace Go.Proofs.YtobfdeiimnnanaaGreatDoor
open Go Go.J Go.RowKit
def tabCommit (T : Tb) (D : Dk) (ops : List Chg) : Int × Tb × Dk :=
  if ops = [] then (0, T, D)
  else if (walAdd T.log D (recordE ops)).1 ≠ 0 then ((walAdd T.log D (recordE ops)).1, { T with log := (walAdd T.log D (recordE ops)).2.1 }, (walAdd T.log D (recordE ops)).2.2)
  else if 16 ≤ (walAdd T.log D (recordE ops)).2.1.recs.length then tabPack ⟨T.dir, applyE T.rows ops, (walAdd T.log D (recordE ops)).2.1⟩ (walAdd T.log D (recordE ops)).2.2
  else (0, ⟨T.dir, applyE T.rows ops, (walAdd T.log D (recordE ops)).2.1⟩, (walAdd T.log D (recordE ops)).2.2)
def bchLeft (T : Tb) (D : Dk) (m : Bch) : Bch := if (walAdd T.log D (recordE (m.map Prod.snd))).1 ≠ 0 then m else []
theorem mget_at : ∀ {m : Bch}, (m.map Prod.fst).Nodup → ∀ {k : Nat} (h : k < m.length), mget m m[k].1 = some m[k].2
  | [], _, k, h => by simp at h
  | (a, b) :: m, hn, 0, h => by simp [mget]
  | (a, b) :: m, hn, k + 1, h => by
    have hn' : a ∉ m.map Prod.fst ∧ (m.map Prod.fst).Nodup := by simpa using hn
    have hk : k < m.length := by simpa using h
    have hne : ¬ m[k].1 = a := fun e => hn'.1 (by rw [← e]; exact List.mem_map_of_mem (List.getElem_mem hk))
    show mget ((a, b) :: m) m[k].1 = some m[k].2
    unfold mget
    rw [if_neg hne]
    exact mget_at hn'.2 hk
theorem walAdd_len (G : Lg) (D : Dk) (r : List UInt8) : (walAdd G D r).2.1.recs.length ≤ G.recs.length + 1 ∧ (walAdd G D r).2.1.p = G.p := by
  unfold walAdd
  repeat' split
  · exact ⟨by dsimp only; omega, rfl⟩
  · exact ⟨by dsimp only; omega, rfl⟩
  · exact ⟨by simp [Lg.push], rfl⟩
theorem Dk.Sm.up {D : Dk} {B C : Nat} (h : D.Sm B) (hc : B ≤ C) : D.Sm C := ⟨h.1, fun x hx => Nat.le_trans (h.2 x hx) hc⟩
theorem Dk.Sm.append {D : Dk} {B C : Nat} (h : D.Sm B) {p s : List UInt8} (hs : s.length ≤ C) : (D.append p s).2.Sm (B + C) := by
  unfold Dk.append
  repeat' split
  · exact h.up (Nat.le_add_right _ _)
  · exact h.step.up (Nat.le_add_right _ _)
  · refine (h.step.up (Nat.le_add_right B C)).set ?_
    have := h.step.at_ p
    simp only [List.length_append]
    omega
theorem Dk.Sm.walAdd {D : Dk} {G : Lg} {r : List UInt8} (h : D.Sm 549755813888) (hr : r.length ≤ 4294967296) : (walAdd G D r).2.2.Sm 1099511627776 := by
  have hpk := packE_len r
  have hpn := putN_len10 (n := r.length) (by omega)
  have h1 : (D.append G.p (packE r)).2.Sm 1099511627776 := (h.append (C := 8589934592) (by omega)).up (by omega)
  unfold Go.Proofs.YtobfdeiimnnanaaGreatDoor.walAdd
  repeat' split
  · exact h1
  · exact h1.sync
  · exact h1.sync
set_option maxHeartbeats 16000000 in
set_option maxRecDepth 100000 in
theorem bcommit_c {B Tp q mb lb : Nat} {D D' : Dk} {T T' : Tb} {m : Bch} {fb fp : List Nat} {w0 : World} {e : Int} (hi : InL w0 [bchC B (some ⟨Tp, 0, none⟩) m fb, tabC Tp q T fp, dkC q mb lb D]) (hu : tabCommit T D (m.map Prod.snd) = (e, T', D'))
    (hl : T.dir.length ≤ 1099511000) (hlg : T.log.p.length ≤ 1099511620) (hno : D.Sm 549755813888) (hr : (recordE (m.map Prod.snd)).length ≤ 1073741824) (hn : T.log.recs.length ≤ 4194303) (hml : m.length ≤ 1048576)
    (hr2 : (recordE (packL (applyE T.rows (m.map Prod.snd)))).length ≤ 549755813888) (hn2 : (applyE T.rows (m.map Prod.snd)).length ≤ 1048576) (hk2 : ∀ p ∈ applyE T.rows (m.map Prod.snd), p.1.length ≤ 1099511627776) :
    Cal Tryz.prog 29 [.pointer (some ⟨B, 0, none⟩)] w0
      (fun v w' => v = .int .i64 e ∧ ∃ fb' fp', MutL w0 w' [bchC B (some ⟨Tp, 0, none⟩) m fb, tabC Tp q T fp, dkC q mb lb D] [bchC B (some ⟨Tp, 0, none⟩) (bchLeft T D m) fb', tabC Tp q T' fp', dkC q mb lb D']) := by
  refine Cal.mkL hi (by kernel_rfl) Tryz.func29 rfl rfl fun hS => ?_
  obtain ⟨_, ⟨A, cap, mb2, rfl⟩, hfb, hS⟩ := St.objOpen hS
  replace hS : St w0 (fps [bchC B (some ⟨Tp, 0, none⟩) m fb, tabC Tp q T fp, dkC q mb lb D]) w0 [.box B 122 [.pointer (some ⟨Tp, 0, none⟩), .slice A m.length cap, .map (some mb2)], .own (.slice A m.length cap) 9 1 m.length (strs (m.map Prod.fst)), mapC mb2 (mmap encChg m), tabC Tp q T fp, dkC q mb lb D] _ := hS
  have hnd : (m.map Prod.fst).Nodup := by
    have h : ((mmap encChg m).map Prod.fst).Nodup := (hS.holds (mapC mb2 (mmap encChg m)) Mm).1.1
    have e1 : (mmap encChg m).map Prod.fst = m.map Prod.fst := by unfold mmap; rw [List.map_map]; rfl
    rwa [e1] at h
  replace hS := hS.pulls (D := [tabC Tp q T fp]) Pu
  obtain ⟨_, ⟨mr, L, fpl, rfl⟩, hfp, hS⟩ := St.objOpen hS
  obtain ⟨dir, rows, G⟩ := T
  dsimp only at hl hlg hr hn hS hu hr2 hn2 hk2
  replace hS : St w0 (fps [bchC B (some ⟨Tp, 0, none⟩) m fb, tabC Tp q ⟨dir, rows, G⟩ fp, dkC q mb lb D]) w0 [tbB Tp (some ⟨q, 0, none⟩) dir (some ⟨L, 0, none⟩) mr, rowsC mr rows, lgC L q G fpl, .box B 122 [.pointer (some ⟨Tp, 0, none⟩), .slice A m.length cap, .map (some mb2)], .own (.slice A m.length cap) 9 1 m.length (strs (m.map Prod.fst)), mapC mb2 (mmap encChg m), dkC q mb lb D] (ZL w0 [bchC B (some ⟨Tp, 0, none⟩) m fb, tabC Tp q ⟨dir, rows, G⟩ fp, dkC q mb lb D]) := hS
  by_cases hm0 : m = []
  · subst hm0
    have hu : (0, ⟨dir, rows, G⟩, D) = (e, T', D') := hu
    cases hu
    clear hnd
    have h0 : (([] : Bch).length : Int) = 0 := rfl
    repeat' (first | (show WL _ _ _ _ _ _ _; first | refine WL.pure rfl rfl rfl rfl ?_ | refine WL.nil ?_ | refine WL.load hS rfl rfl (LdOk.box Mm rfl) rfl rfl rfl ?_) | (show WC _ _ _ _ _ _; first | refine WC.seq ?_ | refine WC.region ?_ | refine WC.skip ?_ | refine WC.ret ?_ | refine WC.condF rfl (by with_reducible rfl) ?_ | refine WC.condT rfl (by decide) ?_) | refine seqQ_n ?_ | refine seqQ_r ?_)
    have hS := St.objClose (φ := tabφ Tp q ⟨dir, rows, G⟩) (hS.pulls (D := [tbB Tp (some ⟨q, 0, none⟩) dir (some ⟨L, 0, none⟩) mr, rowsC mr rows, lgC L q G fpl]) Pu) ⟨mr, L, fpl, rfl⟩
    have hS := St.objClose (φ := bchφ B (some ⟨Tp, 0, none⟩) []) (hS.pulls (D := [.box B 122 [.pointer (some ⟨Tp, 0, none⟩), .slice A ([] : Bch).length cap, .map (some mb2)], .own (.slice A ([] : Bch).length cap) 9 1 ([] : Bch).length (strs (([] : Bch).map Prod.fst)), mapC mb2 (mmap encChg [])]) Pu) ⟨A, cap, mb2, rfl⟩
    have hleft : bchLeft ⟨dir, rows, G⟩ D [] = [] := by unfold bchLeft; split <;> rfl
    rw [hleft]
    exact fin1r rfl rfl ⟨rfl, _, _, hS.mutLp Pu⟩
  have hmpos : 0 < m.length := List.length_pos_iff.2 hm0
  obtain ⟨ag, ao, rfl⟩ := hS.own_addr (A := A) (n := m.length) Mm hmpos
  repeat' (first | (show WL _ _ _ _ _ _ _; first | refine WL.pure rfl rfl rfl rfl ?_ | refine WL.nil ?_ | refine WL.load hS rfl rfl (LdOk.box Mm rfl) rfl rfl rfl ?_ | (refine WL.slit (t := 106) hS rfl rfl rfl rfl rfl ?_; intro w ob hS; have hS := hS.boxRow (n := 0) (size := 3) .here rfl (Nat.zero_le _))) | (show WC _ _ _ _ _ _; first | refine WC.seq ?_ | refine WC.region ?_ | refine WC.block ?_ | refine WC.skip ?_ | refine WC.condF rfl (by with_reducible rfl) ?_ | refine WC.condF rfl (decide_eq_false (by first | with_reducible assumption | omega)) ?_) | refine seqQ_n ?_)
  replace hS := hS.droplast2 (D := [.own (.slice (some ⟨ob, 0, none⟩) 0 0) 134 3 0 [], .own (.slice (some ⟨ag, ao, none⟩) m.length cap) 9 1 m.length (strs (m.map Prod.fst)), .box B 122 [.pointer (some ⟨Tp, 0, none⟩), .slice (some ⟨ag, ao, none⟩) m.length cap, .map (some mb2)], mapC mb2 (mmap encChg m), tbB Tp (some ⟨q, 0, none⟩) dir (some ⟨L, 0, none⟩) mr, rowsC mr rows, lgC L q G fpl, dkC q mb lb D]) Pu
  refine WC.loop (σ := Nat × List Chg × Option Addr × Nat) [0, 26, 27] (fun (k, l, A2, cap2) => [(3, .slice A2 l.length cap2), (28, .int .i64 (k : Int))])
    (fun (k, l, A2, cap2) w => k ≤ m.length ∧ l = (m.take k).map Prod.snd ∧ St w0 (fps [bchC B (some ⟨Tp, 0, none⟩) m fb, tabC Tp q ⟨dir, rows, G⟩ fp, dkC q mb lb D]) w [.own (.slice A2 l.length cap2) 134 3 l.length (chgs l), .own (.slice (some ⟨ag, ao, none⟩) m.length cap) 9 1 m.length (strs (m.map Prod.fst)), .box B 122 [.pointer (some ⟨Tp, 0, none⟩), .slice (some ⟨ag, ao, none⟩) m.length cap, .map (some mb2)], mapC mb2 (mmap encChg m), tbB Tp (some ⟨q, 0, none⟩) dir (some ⟨L, 0, none⟩) mr, rowsC mr rows, lgC L q G fpl, dkC q mb lb D] (ZL w0 [bchC B (some ⟨Tp, 0, none⟩) m fb, tabC Tp q ⟨dir, rows, G⟩ fp, dkC q mb lb D]))
    (fun (k, _) => m.length - k) (0, [], some ⟨ob, 0, none⟩, 0) ⟨Nat.zero_le _, rfl, hS⟩ ⟨rfl, rfl, trivial⟩ ?_
  clear hS
  rintro ⟨k, l, A2, cap2⟩ g w ⟨hkk, hleq, hS⟩
  show WC _ _ _ (lf _ [(3, .slice A2 l.length cap2), (28, .int .i64 (k : Int))] _ _) _ _
  have hcap2 := (hS.own_len (List.Mem.head _)).2.2
  have hll : l.length = k := by rw [hleq, List.length_map, List.length_take]; omega
  by_cases hlt : k < m.length
  · clear hu hk2 hr2 hn2 hr
    have hx : (strs (m.map Prod.fst))[k * 1]? = some (str m[k].1) := by rw [Nat.mul_one, strs_at (by rw [List.length_map]; exact hlt), List.getElem_map]
    have hnext : (m.take (k + 1)).map Prod.snd = l ++ [m[k].2] := by rw [List.take_succ_eq_append_getElem hlt, List.map_append, ← hleq]; rfl
    have hlk := look_chg1 m m[k].1
    rw [mget_at hnd hlt] at hlk
    replace hlk : lookV (encChg Chg0) (mmap encChg m) m[k].1 false = encChg m[k].2 := hlk
    generalize m[k].1 = key at *
    generalize m[k].2 = o at *
    obtain ⟨okey, oval, ogone⟩ := o
    clear hleq hnd
    repeat' (first | (show WL _ _ _ _ _ _ _; first | refine WL.pure rfl rfl rfl rfl ?_ | refine WL.nil ?_ | refine WL.load hS rfl rfl (LdOk.box Mm rfl) rfl rfl rfl ?_ | refine WL.add rfl rfl rfl (by omega) rfl rfl rfl ?_ | (refine WL.load hS rfl rfl (LdOk.ownAt Mm rfl ⟨_, rfl⟩ hx rfl) rfl rfl rfl ?_) | (refine WL.mget hS rfl rfl rfl rfl (.mk' Mm) hlk rfl rfl rfl ?_) | (refine WL.app hS rfl rfl rfl rfl (RdOk.box Mm) rfl rfl (fun A cap => Rp) (by omega) rfl rfl rfl ?_; intro A3 cap3 w hS) | refine WL.index rfl rfl rfl rfl (by first | with_reducible assumption | omega) rfl rfl rfl rfl ?_ | (refine WL.slit hS rfl rfl rfl rfl rfl ?_; intro w b hS)) | (show WC _ _ _ _ _ _; first | refine WC.seq ?_ | refine WC.region ?_ | refine WC.block ?_ | refine WC.skip ?_ | refine WC.condT rfl (decide_eq_true (by first | with_reducible assumption | omega)) ?_) | refine seqQ_n ?_ | refine blkQ_n ?_)
    exact rndQ_n (k + 1, l ++ [⟨okey, oval, ogone⟩], A3, cap3) ⟨by omega, hnext.symm, by
      have hS := hS.drop
      rw [List.length_append, ← chgs_snoc]
      exact hS⟩ (by show m.length - (k + 1) < m.length - k; omega) ⟨by rw [List.length_append]; rfl, vint (by omega), trivial⟩ ⟨rfl, rfl, rfl, trivial⟩
  · have hke : k = m.length := by omega
    subst hke
    rw [List.take_length] at hleq
    have hne : l ≠ [] := fun h => by rw [h] at hll; exact hm0 (List.eq_nil_of_length_eq_zero hll.symm)
    unfold tabCommit at hu
    unfold bchLeft
    dsimp only at hu ⊢
    rw [← hleq] at hu hr hr2 hn2 hk2 ⊢
    rw [if_neg hne] at hu
    have hwl := walAdd_len G D (recordE l)
    have hwsm := Dk.Sm.walAdd (G := G) (r := recordE l) hno (by omega)
    rcases hwa : walAdd G D (recordE l) with ⟨e1, G1, D1⟩
    rw [hwa] at hu hwl hwsm
    dsimp only at hu hwl hwsm ⊢
    have hpl : l.length ≤ 1099511627776 := by omega
    clear hnd hkk
    by_cases he1 : e1 = 0
    rotate_left
    · rw [if_pos he1] at hu
      cases hu
      rw [if_pos he1]
      clear hwsm hr2 hn2 hk2 hne
      repeat' (first | (show WL _ _ _ _ _ _ _; first | refine WL.pure rfl rfl rfl rfl ?_ | refine WL.nil ?_) | (show WC _ _ _ _ _ _; first | refine WC.seq ?_ | refine WC.region ?_ | refine WC.exit ?_ | refine WC.ret ?_ | (show WC _ _ (Code.region _ (List.toArray [_, _, _, _, _, _, _, _, _, _, _]) true) _ _ _; refine WC.drawL [lgC L q G fpl, dkC q mb lb D] hS Pu [0,1,2,3,4,5,6,7,10] [0,1,2,3,4,5,6,7,8,9,10] (by kernel_rfl) (by kernel_rfl) ?_; clear hS; intro w hS hM) | refine WC.condT rfl (decide_eq_true (by first | with_reducible assumption | omega)) ?_ | refine WC.condF rfl (decide_eq_false (by first | with_reducible assumption | omega)) ?_) | (show WD _ _ _ _ _ _ _ _ _; first | refine WD.pure rfl rfl rfl rfl rfl ?_ | refine WD.nil ?_ | refine WD.load rfl rfl (LdOk.box Mm rfl) rfl rfl rfl rfl ?_ | (refine WD.calls hS hM rfl rfl (record_c l (St.ownSl (by decide) hS Mm) (by omega) hpl) rfl rfl rfl rfl rfl ?_; clear hS; rintro v w rfl hS) | (refine WD.callL (D := [lgC L q G fpl, dkC q mb lb D]) hS Pu (.refl _ _) rfl rfl (fun hI => add_c (recordE l) hI hwa hlg hno.1 hr (by rw [Dk.step_at]; exact hno.at_ _) (by omega)) rfl rfl rfl rfl rfl ?_; rintro v w ⟨rfl, fpl2, hm⟩; refine ⟨_, hm, fun hS hM => ?_⟩; clear hm)) | refine seqQ_n ?_ | refine seqQ_x ?_ | refine seqQ_r ?_ | refine blkQ_hit rfl ?_ | refine rndQ_x ?_)
      have hS := St.objClose (φ := tabφ Tp q ⟨dir, rows, G1⟩) (hS.pulls (D := [tbB Tp (some ⟨q, 0, none⟩) dir (some ⟨L, 0, none⟩) mr, rowsC mr rows, lgC L q G1 fpl2]) Pu) ⟨mr, L, fpl2, rfl⟩
      have hS := St.objClose (φ := bchφ B (some ⟨Tp, 0, none⟩) m) (hS.pulls (D := [.box B 122 [.pointer (some ⟨Tp, 0, none⟩), .slice (some ⟨ag, ao, none⟩) m.length cap, .map (some mb2)], .own (.slice (some ⟨ag, ao, none⟩) m.length cap) 9 1 m.length (strs (m.map Prod.fst)), mapC mb2 (mmap encChg m)]) Pu) ⟨some ⟨ag, ao, none⟩, cap, mb2, rfl⟩
      exact fin1r rfl rfl ⟨rfl, _, _, hS.mutLp Pu⟩
    subst he1
    rw [if_neg (fun h => h rfl)] at hu ⊢
    by_cases h16 : 16 ≤ G1.recs.length
    · rw [if_pos h16] at hu
      have hlg1 : G1.p.length ≤ 1099511620 := by rw [hwl.2]; exact hlg
      have hwl1 := hwl.1
      clear hwl hne
      repeat' (first | (show WL _ _ _ _ _ _ _; first | refine WL.pure rfl rfl rfl rfl ?_ | refine WL.nil ?_ | refine WL.load hS rfl rfl (LdOk.box Mm rfl) rfl rfl rfl ?_ | (refine WL.callL (D := [tbB Tp (some ⟨q, 0, none⟩) dir (some ⟨L, 0, none⟩) mr, rowsC mr rows, chgC A2 cap2 l]) hS Pu rfl rfl (fun hI => apply_c hI hpl) rfl rfl rfl ?_; rintro v w ⟨rfl, hm⟩ hS; replace hS := hS _ hm; clear hm) | (refine WL.mmake hS rfl rfl rfl rfl rfl ?_; intro w nb hS) | (refine WL.callL (D := [lgC L q G1 fpl2]) hS Pu rfl rfl (fun hI => records_c hI (by omega)) rfl rfl rfl ?_; rintro v w ⟨A4, cap4, rfl, hm⟩ hS; replace hS := hS _ hm; clear hm) | (have hS := St.objClose (φ := tabφ Tp q ⟨dir, applyE rows l, G1⟩) (hS.pulls (D := [tbB Tp (some ⟨q, 0, none⟩) dir (some ⟨L, 0, none⟩) mr, rowsC mr (applyE rows l), lgC L q G1 fpl2]) Pu) ⟨mr, L, fpl2, rfl⟩; refine WL.callL (D := [tabC Tp q ⟨dir, applyE rows l, G1⟩ _, dkC q mb lb D1]) hS Pu rfl rfl (fun hI => tpack_c hI hu hl hlg1 hwsm hr2 hn2 hk2) rfl rfl rfl ?_; rintro v w ⟨rfl, fp3, hm⟩ hS; replace hS := hS _ hm; clear hm) | (refine WL.store hS rfl rfl rfl Sb rfl rfl rfl ?_; intro w hS)) | (show WC _ _ _ _ _ _; first | refine WC.seq ?_ | refine WC.region ?_ | refine WC.skip ?_ | refine WC.exit ?_ | refine WC.ret ?_ | (show WC _ _ (Code.region _ (List.toArray [_, _, _, _, _, _, _, _, _, _, _]) true) _ _ _; refine WC.drawL [lgC L q G fpl, dkC q mb lb D] hS Pu [0,1,2,3,4,5,6,7,10] [0,1,2,3,4,5,6,7,8,9,10] (by kernel_rfl) (by kernel_rfl) ?_; clear hS; intro w hS hM) | refine WC.condF rfl (by decide) ?_ | refine WC.condT rfl (decide_eq_true (by first | with_reducible assumption | omega)) ?_ | refine WC.condF rfl (decide_eq_false (by first | with_reducible assumption | omega)) ?_) | (show WD _ _ _ _ _ _ _ _ _; first | refine WD.pure rfl rfl rfl rfl rfl ?_ | refine WD.nil ?_ | refine WD.load rfl rfl (LdOk.box Mm rfl) rfl rfl rfl rfl ?_ | (refine WD.calls hS hM rfl rfl (record_c l (St.ownSl (by decide) hS Mm) (by omega) hpl) rfl rfl rfl rfl rfl ?_; clear hS; rintro v w rfl hS) | (refine WD.callL (D := [lgC L q G fpl, dkC q mb lb D]) hS Pu (.refl _ _) rfl rfl (fun hI => add_c (recordE l) hI hwa hlg hno.1 hr (by rw [Dk.step_at]; exact hno.at_ _) (by omega)) rfl rfl rfl rfl rfl ?_; rintro v w ⟨rfl, fpl2, hm⟩; refine ⟨_, hm, fun hS hM => ?_⟩; clear hm)) | refine seqQ_n ?_ | refine seqQ_x ?_ | refine seqQ_r ?_ | refine blkQ_hit rfl ?_ | refine rndQ_x ?_)
      have hS := hS.nilRow 9 1
      have hS := St.objClose (φ := bchφ B (some ⟨Tp, 0, none⟩) []) (hS.pulls (D := [.box B 122 [.pointer (some ⟨Tp, 0, none⟩), .slice none 0 0, .map (some nb)], .own (.slice none 0 0) 9 1 0 [], mapC nb []]) Pu) ⟨none, 0, nb, rfl⟩
      exact fin1r rfl rfl ⟨rfl, _, _, hS.mutLp Pu⟩
    · rw [if_neg h16] at hu
      cases hu
      have hwl1 := hwl.1
      clear hwl hne hwsm hr2 hn2 hk2
      repeat' (first | (show WL _ _ _ _ _ _ _; first | refine WL.pure rfl rfl rfl rfl ?_ | refine WL.nil ?_ | refine WL.load hS rfl rfl (LdOk.box Mm rfl) rfl rfl rfl ?_ | (refine WL.callL (D := [tbB Tp (some ⟨q, 0, none⟩) dir (some ⟨L, 0, none⟩) mr, rowsC mr rows, chgC A2 cap2 l]) hS Pu rfl rfl (fun hI => apply_c hI hpl) rfl rfl rfl ?_; rintro v w ⟨rfl, hm⟩ hS; replace hS := hS _ hm; clear hm) | (refine WL.mmake hS rfl rfl rfl rfl rfl ?_; intro w nb hS) | (refine WL.callL (D := [lgC L q G1 fpl2]) hS Pu rfl rfl (fun hI => records_c hI (by omega)) rfl rfl rfl ?_; rintro v w ⟨A4, cap4, rfl, hm⟩ hS; replace hS := hS _ hm; clear hm) | (refine WL.store hS rfl rfl rfl Sb rfl rfl rfl ?_; intro w hS)) | (show WC _ _ _ _ _ _; first | refine WC.seq ?_ | refine WC.region ?_ | refine WC.skip ?_ | refine WC.exit ?_ | refine WC.ret ?_ | (show WC _ _ (Code.region _ (List.toArray [_, _, _, _, _, _, _, _, _, _, _]) true) _ _ _; refine WC.drawL [lgC L q G fpl, dkC q mb lb D] hS Pu [0,1,2,3,4,5,6,7,10] [0,1,2,3,4,5,6,7,8,9,10] (by kernel_rfl) (by kernel_rfl) ?_; clear hS; intro w hS hM) | refine WC.condF rfl (by decide) ?_ | refine WC.condF rfl (decide_eq_false (by first | with_reducible assumption | omega)) ?_) | (show WD _ _ _ _ _ _ _ _ _; first | refine WD.pure rfl rfl rfl rfl rfl ?_ | refine WD.nil ?_ | refine WD.load rfl rfl (LdOk.box Mm rfl) rfl rfl rfl rfl ?_ | (refine WD.calls hS hM rfl rfl (record_c l (St.ownSl (by decide) hS Mm) (by omega) hpl) rfl rfl rfl rfl rfl ?_; clear hS; rintro v w rfl hS) | (refine WD.callL (D := [lgC L q G fpl, dkC q mb lb D]) hS Pu (.refl _ _) rfl rfl (fun hI => add_c (recordE l) hI hwa hlg hno.1 hr (by rw [Dk.step_at]; exact hno.at_ _) (by omega)) rfl rfl rfl rfl rfl ?_; rintro v w ⟨rfl, fpl2, hm⟩; refine ⟨_, hm, fun hS hM => ?_⟩; clear hm)) | refine seqQ_n ?_ | refine seqQ_x ?_ | refine blkQ_hit rfl ?_ | refine rndQ_x ?_)
      have hS := St.objClose (φ := tabφ Tp q ⟨dir, applyE rows l, G1⟩) (hS.pulls (D := [tbB Tp (some ⟨q, 0, none⟩) dir (some ⟨L, 0, none⟩) mr, rowsC mr (applyE rows l), lgC L q G1 fpl2]) Pu) ⟨mr, L, fpl2, rfl⟩
      have hS := hS.nilRow 9 1
      have hS := St.objClose (φ := bchφ B (some ⟨Tp, 0, none⟩) []) (hS.pulls (D := [.box B 122 [.pointer (some ⟨Tp, 0, none⟩), .slice none 0 0, .map (some nb)], .own (.slice none 0 0) 9 1 0 [], mapC nb []]) Pu) ⟨none, 0, nb, rfl⟩
      exact fin1r rfl rfl ⟨rfl, _, _, hS.mutLp Pu⟩
end Go.Proofs.YtobfdeiimnnanaaGreatDoor

/- What is proved: a quiet disk on which a table lies: what the disk's calls make of it. Conditions: as each names them. -/
namespace Go.Proofs.YtobfdeiimnnanaaGreatDoor
open Go Go.J Go.RowKit
abbrev sysP : List UInt8 := [115, 121, 115]
abbrev sysL : List UInt8 := [115, 121, 115, 47, 108, 111, 103]
abbrev sysLT : List UInt8 := [115, 121, 115, 47, 108, 111, 103, 95, 116]
abbrev sysB : List UInt8 := [115, 121, 115, 47, 98, 97, 115, 101]
abbrev sysBT : List UInt8 := [115, 121, 115, 47, 98, 97, 115, 101, 95, 116]
def sysF (p : List UInt8) : Prop := p = sysL ∨ p = sysLT ∨ p = sysB ∨ p = sysBT
theorem sysF_ok {p : List UInt8} (h : sysF p) : checkE p 6 = 0 ∧ deepE p = 2 ∧ parentE p = sysP ∧ p ≠ sysP := by
  rcases h with rfl | rfl | rfl | rfl
  all_goals exact ⟨by kernel_rfl, by kernel_rfl, by kernel_rfl, by decide⟩
def Dk.get (D : Dk) (p : List UInt8) : Option It := mget D.items p
theorem Dk.at_get (D : Dk) (p : List UInt8) : D.at p = (D.get p).getD It0 := rfl
theorem Dk.has_get (D : Dk) (p : List UInt8) : D.has p = (D.get p).isSome := rfl
structure Sys (D : Dk) : Prop where
  up : D.down = false
  calm : D.armed < 0
  lim : D.limits = []
  nd : (D.items.map Prod.fst).Nodup
  dir : (D.at sysP).dir = true
  has : D.has sysP = true
  files : ∀ p, sysF p → (D.at p).dir = false
theorem Dk.get_set (D : Dk) (p y : List UInt8) (x : It) : (D.set p x).get y = if y = p then some { x with stamp := IntKind.i64.wrap (D.stamps + 1) } else D.get y := mget_set _ _ _ _
theorem Dk.get_put (D : Dk) (p y : List UInt8) (x : It) : Dk.get { D with items := mset D.items p x } y = if y = p then some x else D.get y := mget_set _ _ _ _
theorem Dk.get_del (D : Dk) (h : (D.items.map Prod.fst).Nodup) (p y : List UInt8) : (D.del p).get y = if y = p then none else D.get y := mget_del _ h _ _
theorem Dk.get_step (D : Dk) (p : List UInt8) : D.step.get p = D.get p := by unfold Dk.get; rw [Dk.step_items]
section
variable {D : Dk}
theorem Sys.stepE (h : Sys D) : D.stepE = 0 := by
  have := h.calm
  unfold Dk.stepE
  rw [if_neg (by omega)]
theorem Sys.step_eq (h : Sys D) : D.step = { D with steps := IntKind.i64.wrap (D.steps + 1) } := by
  have := h.calm
  unfold Dk.step
  rw [if_neg (by omega), if_neg (by omega)]
theorem Sys.step (h : Sys D) : Sys D.step := by
  rw [h.step_eq]
  exact ⟨h.up, h.calm, h.lim, h.nd, h.dir, h.has, h.files⟩
theorem Sys.may (h : Sys D) {p : List UInt8} (hp : sysF p) : D.may p 1 = 0 := by
  obtain ⟨h1, h2, _, _⟩ := sysF_ok hp
  unfold Dk.may
  rw [h.up, if_neg (by decide), if_neg (fun hh => hh h1), if_neg (by rw [h2]; decide)]
theorem Sys.under (h : Sys D) {p : List UInt8} (hp : sysF p) : D.under p = true := by
  obtain ⟨_, h2, h3, _⟩ := sysF_ok hp
  unfold Dk.under
  rw [if_neg (by rw [h2]; decide), h3, h.dir]
theorem Sys.file (h : Sys D) {p : List UInt8} (hp : sysF p) (hh : D.has p = true) : D.file p = 0 := by
  unfold Dk.file
  rw [h.may hp, if_neg (fun hh => hh rfl), if_pos hh, h.files p hp, if_neg (by decide)]
theorem Sys.set (h : Sys D) {p : List UInt8} {x : It} (hp : sysF p) (hx : x.dir = false) : Sys (D.set p x) := by
  obtain ⟨_, _, _, hne⟩ := sysF_ok hp
  refine ⟨h.up, h.calm, h.lim, mset_nodup h.nd _ _, ?_, ?_, fun y hy => ?_⟩
  · rw [Dk.at_get, Dk.get_set, if_neg (Ne.symm hne)]; exact h.dir
  · rw [Dk.has_get, Dk.get_set, if_neg (Ne.symm hne)]; exact h.has
  · rw [Dk.at_get, Dk.get_set]
    by_cases e : y = p
    · rw [if_pos e]; exact hx
    · rw [if_neg e]; exact h.files y hy
theorem Sys.put (h : Sys D) {p : List UInt8} {x : It} (hp : sysF p) (hx : x.dir = false) : Sys { D with items := mset D.items p x } := by
  obtain ⟨_, _, _, hne⟩ := sysF_ok hp
  refine ⟨h.up, h.calm, h.lim, mset_nodup h.nd _ _, ?_, ?_, fun y hy => ?_⟩
  · rw [Dk.at_get, Dk.get_put, if_neg (Ne.symm hne)]; exact h.dir
  · rw [Dk.has_get, Dk.get_put, if_neg (Ne.symm hne)]; exact h.has
  · rw [Dk.at_get, Dk.get_put]
    by_cases e : y = p
    · rw [if_pos e]; exact hx
    · rw [if_neg e]; exact h.files y hy
theorem Sys.del (h : Sys D) {p : List UInt8} (hp : sysF p) : Sys (D.del p) := by
  obtain ⟨_, _, _, hne⟩ := sysF_ok hp
  refine ⟨h.up, h.calm, h.lim, mdel_nodup h.nd _, ?_, ?_, fun y hy => ?_⟩
  · rw [Dk.at_get, Dk.get_del _ h.nd, if_neg (Ne.symm hne)]; exact h.dir
  · rw [Dk.has_get, Dk.get_del _ h.nd, if_neg (Ne.symm hne)]; exact h.has
  · rw [Dk.at_get, Dk.get_del _ h.nd]
    by_cases e : y = p
    · rw [if_pos e]; rfl
    · rw [if_neg e]; exact h.files y hy
theorem Sys.append (h : Sys D) {p r : List UInt8} (hp : sysF p) (hh : D.has p = true) : (D.append p r).1 = 0 ∧ Sys (D.append p r).2 ∧ ∀ y, (D.append p r).2.get y = if y = p then some { D.at p with data := (D.at p).data ++ r, loose := true, stamp := IntKind.i64.wrap (D.stamps + 1) } else D.get y := by
  have e : D.append p r = (0, D.step.set p { D.at p with data := (D.at p).data ++ r, loose := true }) := by
    unfold Dk.append
    rw [h.file hp hh, if_neg (fun hh => hh rfl), h.stepE, if_neg (fun hh => hh rfl), Dk.step_at]
  rw [e]
  refine ⟨rfl, h.step.set hp (h.files p hp), fun y => ?_⟩
  rw [Dk.get_set, Dk.get_step, h.step_eq]
theorem Sys.sync (h : Sys D) {p : List UInt8} (hp : sysF p) (hh : D.has p = true) : (D.sync p).1 = 0 ∧ Sys (D.sync p).2 ∧ ∀ y, (D.sync p).2.get y = if y = p then some { D.at p with kept := (D.at p).data, loose := false, anew := false } else D.get y := by
  have e : D.sync p = (0, { D.step with items := mset D.step.items p { D.at p with kept := (D.at p).data, loose := false, anew := false } }) := by
    unfold Dk.sync
    rw [h.file hp hh, if_neg (fun hh => hh rfl), h.stepE, if_neg (fun hh => hh rfl), Dk.step_at]
  rw [e]
  refine ⟨rfl, h.step.put hp (h.files p hp), fun y => ?_⟩
  rw [Dk.get_put, Dk.get_step]
theorem Sys.write (h : Sys D) {p r : List UInt8} (hp : sysF p) : (D.write p r).1 = 0 ∧ Sys (D.write p r).2 ∧ ∀ y, (D.write p r).2.get y = if y = p then some { D.at p with data := r, loose := true, anew := true, stamp := IntKind.i64.wrap (D.stamps + 1) } else D.get y := by
  have e : D.write p r = (0, D.step.set p { D.at p with data := r, loose := true, anew := true }) := by
    unfold Dk.write
    rw [h.may hp, if_neg (fun hh => hh rfl), h.under hp, if_neg (by decide), h.files p hp, if_neg (by decide), h.stepE, if_neg (fun hh => hh rfl)]
  rw [e]
  refine ⟨rfl, h.step.set hp (h.files p hp), fun y => ?_⟩
  rw [Dk.get_set, Dk.get_step, h.step_eq]
theorem Sys.rename (h : Sys D) {p r : List UInt8} (hp : sysF p) (hr : sysF r) (hh : D.has p = true) : (D.rename p r).1 = 0 ∧ Sys (D.rename p r).2 ∧ ∀ y, (D.rename p r).2.get y = if y = r then some { D.at p with stamp := IntKind.i64.wrap (D.stamps + 1) } else if y = p then none else D.get y := by
  have e : D.rename p r = (0, (D.step.del p).set r (D.at p)) := by
    unfold Dk.rename
    rw [h.may hp, if_neg (fun hh => hh rfl), h.may hr, if_neg (fun hh => hh rfl), hh, h.under hr, if_neg (by simp), h.files p hp, h.files r hr, if_neg (by simp), h.stepE, if_neg (fun hh => hh rfl)]
  rw [e]
  refine ⟨rfl, (h.step.del hp).set hr (h.files p hp), fun y => ?_⟩
  rw [Dk.get_set, Dk.get_del _ h.step.nd, Dk.get_step]
  have : (D.step.del p).stamps = D.stamps := by rw [h.step_eq]; rfl
  rw [this]
theorem has_of_get {D : Dk} {p : List UInt8} {x : It} (h : D.get p = some x) : D.has p = true := by rw [Dk.has_get, h]; rfl
theorem at_of_get {D : Dk} {p : List UInt8} {x : It} (h : D.get p = some x) : D.at p = x := by rw [Dk.at_get, h]; rfl
theorem Sys.fill (h : Sys D) {p s : List UInt8} (hp : sysF p) (ht : sysF (p ++ [95, 116])) (hne : p ++ [95, 116] ≠ p) : (D.fill p s).1 = 0 ∧ Sys (D.fill p s).2 ∧ (∃ x, (D.fill p s).2.get p = some x ∧ x.dir = false ∧ x.data = s ∧ x.kept = s ∧ x.loose = false ∧ x.anew = false) ∧ (D.fill p s).2.get (p ++ [95, 116]) = none ∧ ∀ y, y ≠ p → y ≠ p ++ [95, 116] → (D.fill p s).2.get y = D.get y := by
  obtain ⟨w1, w2, w3⟩ := h.write (r := s) ht
  have g1 := w3 (p ++ [95, 116])
  rw [if_pos rfl] at g1
  obtain ⟨s1, s2, s3⟩ := w2.sync ht (has_of_get g1)
  have g2 := s3 (p ++ [95, 116])
  rw [if_pos rfl, at_of_get g1] at g2
  obtain ⟨r1, r2, r3⟩ := s2.rename ht hp (has_of_get g2)
  have e : D.fill p s = ((D.write (p ++ [95, 116]) s).2.sync (p ++ [95, 116])).2.rename (p ++ [95, 116]) p := by
    unfold Dk.fill
    rw [if_neg (fun hh => hh w1), if_neg (fun hh => hh s1)]
  rw [e]
  refine ⟨r1, r2, ⟨_, by rw [r3, if_pos rfl], ?_⟩, by rw [r3, if_neg hne, if_pos rfl], fun y h1 h2 => by rw [r3, if_neg h1, if_neg h2, s3, if_neg h2, w3, if_neg h2]⟩
  rw [at_of_get g2]
  exact ⟨h.files _ ht, rfl, rfl, rfl, rfl⟩
end
end Go.Proofs.YtobfdeiimnnanaaGreatDoor

/- What is proved: changes that were written are read back; rows by what they answer. Conditions: texts of bounded length. -/
namespace Go.Proofs.YtobfdeiimnnanaaGreatDoor
open Go Go.J Go.RowKit
def normO (o : Chg) : Chg := if o.gone then ⟨o.key, [], true⟩ else o
structure SmO (o : Chg) : Prop where
  key : o.key.length < 9223372036854775808
  val : o.val.length < 9223372036854775808
theorem drop_app {α : Type} (a b : List α) : (a ++ b).drop a.length = b := by simp
theorem opE_rec (o : Chg) (t : List UInt8) (h : SmO o) : opE (recO o ++ t) = (normO o, (recO o).length, 0) := by
  obtain ⟨key, val, gone⟩ := o
  have hk := h.key
  have hv := h.val
  dsimp only at hk hv
  have p0 : putN 0 = [0] := putN_small (by decide)
  have p1 : putN 1 = [1] := putN_small (by decide)
  have hd : ∀ (c : UInt8) (r : List UInt8), ([c] ++ r).drop 1 = r := fun _ _ => rfl
  rcases gone with _ | _
  · have e : recO ⟨key, val, false⟩ ++ t = [1] ++ (putN key.length ++ (key ++ (putN val.length ++ (val ++ t)))) := by simp [recO, textE]
    have hu : uintE ([1] ++ (putN key.length ++ (key ++ (putN val.length ++ (val ++ t))))) = (1, 1, 0) := by
      have := uintE_put 1 (by omega) (putN key.length ++ (key ++ (putN val.length ++ (val ++ t))))
      rwa [p1] at this
    have h2 := rtextE_text key (putN val.length ++ (val ++ t)) hk
    have h3 := rtextE_text val t hv
    have hl : (recO ⟨key, val, false⟩).length = 1 + (key.length + (putN key.length).length) + (val.length + (putN val.length).length) := by simp [recO, textE]; omega
    rw [e, hl]
    rw [opE_put (x := key) (y := val) (v := key.length + (putN key.length).length) (z := val.length + (putN val.length).length) hu (by rw [hd]; exact h2) (by
      rw [show 1 + (key.length + (putN key.length).length) = ([1] ++ (putN key.length ++ key)).length by simp; omega, show [1] ++ (putN key.length ++ (key ++ (putN val.length ++ (val ++ t)))) = ([1] ++ (putN key.length ++ key)) ++ (putN val.length ++ (val ++ t)) by simp, drop_app]
      exact h3)]
    rfl
  · have e : recO ⟨key, val, true⟩ ++ t = [0] ++ (putN key.length ++ (key ++ t)) := by simp [recO, textE]
    have hu : uintE ([0] ++ (putN key.length ++ (key ++ t))) = (0, 1, 0) := by
      have := uintE_put 0 (by omega) (putN key.length ++ (key ++ t))
      rwa [p0] at this
    have h2 := rtextE_text key t hk
    have hl : (recO ⟨key, val, true⟩).length = 1 + (key.length + (putN key.length).length) := by simp [recO, textE]; omega
    rw [e, hl]
    rw [opE_gone (x := key) (v := key.length + (putN key.length).length) hu (by rw [hd]; exact h2)]
    rfl
theorem opsF_rec : ∀ (l : List Chg) (t : List UInt8), (∀ o ∈ l, SmO o) → opsF l.length (l.flatMap recO ++ t) = (l.map normO, (l.flatMap recO).length, 0)
  | [], t, _ => rfl
  | o :: l, t, h => by
    have ho := opE_rec o (l.flatMap recO ++ t) (h o (List.mem_cons_self ..))
    have ih := opsF_rec l t (fun x hx => h x (List.mem_cons_of_mem _ hx))
    rw [List.flatMap_cons, List.append_assoc, List.length_cons, opsF_s, ho, if_neg (fun h => h rfl)]
    dsimp only
    rw [drop_app, ih, if_neg (fun h => h rfl)]
    simp
theorem opsE_record (l : List Chg) (h : ∀ o ∈ l, SmO o) (hl : l.length < 9223372036854775808) : opsE (recordE l) = (l.map normO, 0) := by
  have hu := uintE_put l.length hl (l.flatMap recO)
  have hf := opsF_rec l [] h
  rw [List.append_nil] at hf
  rw [opsE_of (show uintE (recordE l) = _ from hu)]
  rw [show recordE l = putN l.length ++ l.flatMap recO from rfl, drop_app, hf]
  unfold opsFin
  rw [if_neg (fun h => h rfl)]
  dsimp only
  rw [if_neg (by simp), List.nil_append]
def Clean (l : List Chg) : Prop := ∀ o ∈ l, o.gone = true → o.val = []
theorem norm_clean {l : List Chg} (h : Clean l) : l.map normO = l := by
  have : ∀ o ∈ l, normO o = o := fun o ho => by
    unfold normO
    split
    · rename_i hg
      have := h o ho hg
      obtain ⟨k, v, g⟩ := o
      dsimp only at hg this
      subst hg this
      rfl
    · rfl
  rw [List.map_congr_left this, List.map_id']
def setF (f : List UInt8 → Option (List UInt8)) (o : Chg) : List UInt8 → Option (List UInt8) := fun y => if y = o.key then (if o.gone then none else some o.val) else f y
def applyF (f : List UInt8 → Option (List UInt8)) (l : List Chg) : List UInt8 → Option (List UInt8) := l.foldl setF f
def RowsAre (rows : Rws) (f : List UInt8 → Option (List UInt8)) : Prop := (rows.map Prod.fst).Nodup ∧ ∀ k, mget rows k = f k
theorem RowsAre.nil : RowsAre [] fun _ => none := ⟨by simp, fun _ => rfl⟩
theorem RowsAre.one {rows : Rws} {f : List UInt8 → Option (List UInt8)} (h : RowsAre rows f) (o : Chg) : RowsAre (if o.gone then mdel rows o.key else mset rows o.key o.val) (setF f o) := by
  unfold setF
  split
  · refine ⟨mdel_nodup h.1 _, fun k => ?_⟩
    rw [mget_del _ h.1, h.2]
  · refine ⟨mset_nodup h.1 _ _, fun k => ?_⟩
    rw [mget_set, h.2]
theorem RowsAre.apply : ∀ {l : List Chg} {rows : Rws} {f : List UInt8 → Option (List UInt8)}, RowsAre rows f → RowsAre (applyE rows l) (applyF f l)
  | [], _, _, h => h
  | o :: l, rows, f, h => by
    rw [applyE_cons]
    exact RowsAre.apply (h.one o)
theorem keysE_perm {β : Type} (m : List (List UInt8 × β)) : (keysE m).Perm (m.map Prod.fst) := List.mergeSort_perm _ _
theorem mget_of_mem : ∀ {rows : Rws} {k v : List UInt8}, (rows.map Prod.fst).Nodup → (k, v) ∈ rows → mget rows k = some v
  | [], _, _, _, h => by cases h
  | (a, b) :: r, k, v, hn, h => by
    have hn' : a ∉ r.map Prod.fst ∧ (r.map Prod.fst).Nodup := by simpa using hn
    unfold mget
    rcases List.mem_cons.1 h with h | h
    · cases h; rw [if_pos rfl]
    · have : ¬ k = a := fun e => hn'.1 (by rw [← e]; exact List.mem_map_of_mem (f := Prod.fst) h)
      rw [if_neg this]
      exact mget_of_mem hn'.2 h
theorem packL_perm {rows : Rws} (hn : (rows.map Prod.fst).Nodup) : (packL rows).Perm (rows.map fun p => (⟨p.1, p.2, false⟩ : Chg)) := by
  unfold packL
  refine ((keysE_perm rows).map _).trans ?_
  rw [List.map_map]
  have : ∀ p ∈ rows, (rowOp rows ∘ Prod.fst) p = (⟨p.1, p.2, false⟩ : Chg) := fun p hp => by
    show (⟨p.1, (mget rows p.1).getD [], false⟩ : Chg) = _
    rw [mget_of_mem hn hp]
    rfl
  rw [List.map_congr_left this]
theorem applyF_put : ∀ (l : List Chg) (f : List UInt8 → Option (List UInt8)), (∀ o ∈ l, o.gone = false) → (l.map (·.key)).Nodup → ∀ k, applyF f l k = match l.find? (fun o => decide (o.key = k)) with | some o => some o.val | none => f k
  | [], f, _, _, k => rfl
  | o :: l, f, hg, hn, k => by
    have hn' : o.key ∉ l.map (·.key) ∧ (l.map (·.key)).Nodup := by simpa using hn
    have ih := applyF_put l (setF f o) (fun x hx => hg x (List.mem_cons_of_mem _ hx)) hn'.2 k
    show applyF (setF f o) l k = _
    rw [ih, List.find?_cons]
    by_cases e : o.key = k
    · have hno : l.find? (fun o => decide (o.key = k)) = none := by
        rw [List.find?_eq_none]
        intro x hx h
        have hxk : x.key = k := by simpa using h
        exact hn'.1 (by rw [e, ← hxk]; exact List.mem_map_of_mem hx)
      rw [hno, decide_eq_true e]
      simp only [setF]
      rw [if_pos e.symm, hg o (List.mem_cons_self ..)]
      rfl
    · rw [decide_eq_false e]
      cases hf : l.find? (fun o => decide (o.key = k)) with
      | none => simp only [setF]; rw [if_neg (fun h => e h.symm)]
      | some x => rfl
theorem packL_gone (rows : Rws) : ∀ o ∈ packL rows, o.gone = false := fun o ho => by
  obtain ⟨k, _, rfl⟩ := List.mem_map.1 ho
  rfl
theorem packL_clean (rows : Rws) : Clean (packL rows) := fun o ho h => by rw [packL_gone rows o ho] at h; cases h
theorem packL_keys (rows : Rws) : (packL rows).map (·.key) = keysE rows := by unfold packL; rw [List.map_map]; exact List.map_id'' (fun _ => rfl) _
theorem packL_rows {rows : Rws} {f : List UInt8 → Option (List UInt8)} (h : RowsAre rows f) : ∀ k, applyF (fun _ => none) (packL rows) k = f k := by
  intro k
  have hnk : (keysE rows).Nodup := (keysE_perm rows).nodup_iff.2 h.1
  rw [applyF_put _ _ (packL_gone rows) (by rw [packL_keys]; exact hnk) k]
  have hfind : (packL rows).find? (fun o => decide (o.key = k)) = if k ∈ keysE rows then some (rowOp rows k) else none := by
    unfold packL
    generalize keysE rows = ks
    induction ks with
    | nil => rfl
    | cons a ks ih =>
      rw [List.map_cons, List.find?_cons]
      by_cases e : a = k
      · subst e
        have : decide ((rowOp rows a).key = a) = true := decide_eq_true rfl
        rw [this, if_pos (List.mem_cons_self ..)]
      · have : decide ((rowOp rows a).key = k) = false := decide_eq_false e
        rw [this]
        simp only
        rw [ih]
        by_cases hm : k ∈ ks
        · rw [if_pos hm, if_pos (List.mem_cons_of_mem _ hm)]
        · rw [if_neg hm, if_neg (fun h => by rcases List.mem_cons.1 h with h | h; exact e h.symm; exact hm h)]
  rw [hfind]
  by_cases hm : k ∈ keysE rows
  · rw [if_pos hm]
    have hm2 : k ∈ rows.map Prod.fst := (keysE_perm rows).mem_iff.1 hm
    obtain ⟨p, hp, he⟩ := List.mem_map.1 hm2
    have hg := mget_of_mem h.1 (show (k, p.2) ∈ rows by rw [← he]; exact hp)
    show some ((mget rows k).getD []) = f k
    rw [← h.2 k, hg]
    rfl
  · rw [if_neg hm]
    have hm2 : k ∉ rows.map Prod.fst := fun h => hm ((keysE_perm rows).mem_iff.2 h)
    rw [← h.2 k, mget_none.2 hm2]
def szO (o : Chg) : Nat := o.key.length + o.val.length + 32
def szL (l : List Chg) : Nat := (l.map szO).sum
def szR (rows : Rws) : Nat := (rows.map fun p => p.1.length + p.2.length + 32).sum
theorem recO_len (o : Chg) (h : SmO o) : (recO o).length ≤ szO o := by
  have h1 := putN_len10 (n := o.key.length) (by have := h.key; omega)
  have h2 := putN_len10 (n := o.val.length) (by have := h.val; omega)
  unfold recO szO
  split
  · simp [textE]; omega
  · simp [textE]; omega
theorem recordE_len (l : List Chg) (h : ∀ o ∈ l, SmO o) (hl : l.length < 9223372036854775808) : (recordE l).length ≤ 10 + szL l := by
  have h1 := putN_len10 (n := l.length) (by omega)
  have h2 : ∀ l : List Chg, (∀ o ∈ l, SmO o) → (l.flatMap recO).length ≤ szL l := by
    intro l
    induction l with
    | nil => intro _; simp
    | cons o l ih =>
      intro h
      have a := recO_len o (h o (List.mem_cons_self ..))
      have b := ih fun x hx => h x (List.mem_cons_of_mem _ hx)
      simp only [List.flatMap_cons, List.length_append, szL, List.map_cons, List.sum_cons] at b ⊢
      omega
  have := h2 l h
  unfold recordE
  rw [List.length_append]
  omega
theorem szL_len (l : List Chg) : 32 * l.length ≤ szL l := by
  induction l with
  | nil => simp
  | cons o l ih => simp only [szL, List.map_cons, List.sum_cons, List.length_cons, szO] at ih ⊢; omega
theorem szL_mem {l : List Chg} {o : Chg} (h : o ∈ l) : szO o ≤ szL l := by
  induction l with
  | nil => cases h
  | cons x l ih =>
    simp only [szL, List.map_cons, List.sum_cons] at ih ⊢
    rcases List.mem_cons.1 h with rfl | h
    · omega
    · have := ih h; omega
theorem szR_mem {rows : Rws} {p : List UInt8 × List UInt8} (h : p ∈ rows) : p.1.length + p.2.length + 32 ≤ szR rows := by
  induction rows with
  | nil => cases h
  | cons x l ih =>
    simp only [szR, List.map_cons, List.sum_cons] at ih ⊢
    rcases List.mem_cons.1 h with rfl | h
    · omega
    · have := ih h; omega
theorem szR_set (rows : Rws) (k v : List UInt8) : szR (mset rows k v) ≤ szR rows + (k.length + v.length + 32) := by
  induction rows with
  | nil => simp [mset, szR]
  | cons p r ih =>
    obtain ⟨a, u⟩ := p
    unfold mset
    split
    · rename_i h; subst h; simp only [szR, List.map_cons, List.sum_cons]; omega
    · simp only [szR, List.map_cons, List.sum_cons] at ih ⊢; omega
theorem szR_del (rows : Rws) (k : List UInt8) : szR (mdel rows k) ≤ szR rows := by
  induction rows with
  | nil => simp [mdel]
  | cons p r ih =>
    obtain ⟨a, u⟩ := p
    unfold mdel
    split
    · simp only [szR, List.map_cons, List.sum_cons]; omega
    · simp only [szR, List.map_cons, List.sum_cons] at ih ⊢; omega
theorem szR_apply : ∀ (l : List Chg) (rows : Rws), szR (applyE rows l) ≤ szR rows + szL l
  | [], rows => by simp [applyE, szL]
  | o :: l, rows => by
    rw [applyE_cons]
    have h := szR_apply l (if o.gone then mdel rows o.key else mset rows o.key o.val)
    have h2 : szR (if o.gone then mdel rows o.key else mset rows o.key o.val) ≤ szR rows + szO o := by
      split
      · exact Nat.le_trans (szR_del _ _) (Nat.le_add_right _ _)
      · exact szR_set _ _ _
    simp only [szL, List.map_cons, List.sum_cons] at h ⊢
    omega
theorem szL_perm {l l' : List Chg} (h : l.Perm l') : szL l = szL l' := (h.map szO).sum_nat
theorem szL_pack {rows : Rws} (hn : (rows.map Prod.fst).Nodup) : szL (packL rows) = szR rows := by
  rw [szL_perm (packL_perm hn)]
  unfold szL szR
  rw [List.map_map]
  rfl
theorem smO_of {l : List Chg} (h : szL l < 9223372036854775808) : ∀ o ∈ l, SmO o := fun o ho => by
  have := szL_mem ho
  unfold szO at this
  exact ⟨by omega, by omega⟩
end Go.Proofs.YtobfdeiimnnanaaGreatDoor

/- What is proved: a quiet disk with a table: opened, committed to, packed. Conditions: texts and lists of bounded length. -/
namespace Go.Proofs.YtobfdeiimnnanaaGreatDoor
open Go Go.J Go.RowKit
def Kept (D : Dk) (p s : List UInt8) : Prop := ∃ x, D.get p = some x ∧ x.dir = false ∧ x.data = s ∧ x.kept = s ∧ x.loose = false ∧ x.anew = false
def baseIs (D : Dk) : Option (List Chg) → Prop
  | none => D.get sysB = none
  | some ops => Kept D sysB (packE (recordE ops))
structure TabSt (D : Dk) (bs : Option (List Chg)) (ls : List (List Chg)) : Prop where
  sys : Sys D
  log : Kept D sysL (frames (ls.map recordE))
  base : baseIs D bs
structure TabWf (bs : Option (List Chg)) (ls : List (List Chg)) : Prop where
  few : ls.length < 16
  clean : ∀ l ∈ ls, Clean l
  small : ∀ l ∈ ls, szL l ≤ 1073000000
  bclean : Clean (bs.getD [])
  bsmall : szL (bs.getD []) ≤ 274877906944
def rowsOf (bs : Option (List Chg)) (ls : List (List Chg)) : Rws := ls.foldl applyE (applyE [] (bs.getD []))
def rowsF (bs : Option (List Chg)) (ls : List (List Chg)) : List UInt8 → Option (List UInt8) := ls.foldl applyF (applyF (fun _ => none) (bs.getD []))
theorem rowsAre_fold : ∀ {ls : List (List Chg)} {rows : Rws} {f : List UInt8 → Option (List UInt8)}, RowsAre rows f → RowsAre (ls.foldl applyE rows) (ls.foldl applyF f)
  | [], _, _, h => h
  | l :: ls, _, _, h => rowsAre_fold (ls := ls) h.apply
theorem rowsOf_are (bs : Option (List Chg)) (ls : List (List Chg)) : RowsAre (rowsOf bs ls) (rowsF bs ls) := rowsAre_fold RowsAre.nil.apply
theorem szR_fold : ∀ (ls : List (List Chg)) (rows : Rws) (C : Nat), (∀ l ∈ ls, szL l ≤ C) → szR (ls.foldl applyE rows) ≤ szR rows + ls.length * C
  | [], rows, C, _ => by simp
  | l :: ls, rows, C, h => by
    have h1 := szR_fold ls (applyE rows l) C fun x hx => h x (List.mem_cons_of_mem _ hx)
    have h2 := szR_apply l rows
    have h3 := h l (List.mem_cons_self ..)
    simp only [List.foldl_cons, List.length_cons, Nat.add_mul]
    omega
theorem TabWf.rows {bs : Option (List Chg)} {ls : List (List Chg)} (h : TabWf bs ls) : szR (rowsOf bs ls) ≤ 274877906944 + 17168000000 := by
  have h1 := szR_fold ls (applyE [] (bs.getD [])) 1073000000 h.small
  have h2 := szR_apply (bs.getD []) []
  have h3 := h.bsmall
  have h4 : ls.length * 1073000000 ≤ 16 * 1073000000 := Nat.mul_le_mul_right _ (by have := h.few; omega)
  have h5 : szR ([] : Rws) = 0 := rfl
  unfold rowsOf
  omega
theorem replay_recs : ∀ (ls : List (List Chg)) (rows : Rws), (∀ l ∈ ls, Clean l) → (∀ l ∈ ls, szL l ≤ 1073000000) → replay rows (ls.map recordE) = (0, ls.foldl applyE rows)
  | [], rows, _, _ => rfl
  | l :: ls, rows, hc, hs => by
    have h1 := hs l (List.mem_cons_self ..)
    have h2 := szL_len l
    have ho := opsE_record l (smO_of (by omega)) (by omega)
    rw [norm_clean (hc l (List.mem_cons_self ..))] at ho
    rw [List.map_cons, replay_cons, ho, if_neg (fun h => h rfl)]
    exact replay_recs ls _ (fun x hx => hc x (List.mem_cons_of_mem _ hx)) (fun x hx => hs x (List.mem_cons_of_mem _ hx))
theorem rec_small {l : List Chg} (h : szL l ≤ 1073000000) : (recordE l).length ≤ 1073741824 := by
  have h2 := szL_len l
  have := recordE_len l (smO_of (by omega)) (by omega)
  omega
theorem readE_pack0 (s : List UInt8) (h : s.length < 9223372036854775808) : readE (packE s) = (s, (packE s).length, 0) := by
  have := readE_pack s [] h
  rwa [List.append_nil] at this
section
variable {D : Dk} {bs : Option (List Chg)} {ls : List (List Chg)}
theorem Kept.has {p s : List UInt8} (h : Kept D p s) : D.has p = true := by obtain ⟨x, h1, _⟩ := h; exact has_of_get h1
theorem Kept.data {p s : List UInt8} (h : Kept D p s) : (D.at p).data = s ∧ (D.at p).dir = false := by
  obtain ⟨x, h1, h2, h3, _⟩ := h
  rw [at_of_get h1]
  exact ⟨h3, h2⟩
theorem Kept.read {p s : List UInt8} (h : Kept D p s) (hs : Sys D) : D.read p = (s, 0) := by
  obtain ⟨h1, h2⟩ := h.data
  unfold Dk.read
  rw [hs.up, if_neg (by decide), h.has, if_neg (by decide), h2, if_neg (by decide), h1]
theorem Kept.kind {p s : List UInt8} (h : Kept D p s) : D.kind p = 2 := by
  obtain ⟨h1, h2⟩ := h.data
  unfold Dk.kind
  rw [h.has, if_pos rfl, h2, if_neg (by decide)]
theorem Sys.kindP (h : Sys D) : D.kind sysP = 1 := by
  unfold Dk.kind
  rw [h.has, if_pos rfl, h.dir, if_pos rfl]
theorem TabSt.walOpen (h : TabSt D bs ls) (hw : TabWf bs ls) : walOpen D sysL = (0, some ⟨sysL, ls.map recordE, false⟩, D) := by
  have hrs : ∀ r ∈ ls.map recordE, r.length < 9223372036854775808 := fun r hr => by
    obtain ⟨l, hl, rfl⟩ := List.mem_map.1 hr
    have := rec_small (hw.small l hl)
    omega
  unfold Go.Proofs.YtobfdeiimnnanaaGreatDoor.walOpen
  rw [h.log.kind, if_neg (by decide), h.log.read h.sys]
  dsimp only
  rw [if_neg (fun h => h rfl), scanE_whole _ hrs]
  rfl
theorem TabSt.open (h : TabSt D bs ls) (hw : TabWf bs ls) : tabOpen D sysP = (0, some ⟨sysP, rowsOf bs ls, ⟨sysL, ls.map recordE, false⟩⟩, D) := by
  have hmk : tabMk D sysP = (0, D) := by unfold tabMk; rw [h.sys.kindP, if_neg (by decide)]
  have hwo := h.walOpen hw
  have hb : tabBase D sysP = (0, applyE [] (bs.getD [])) := by
    have hbp : baseP sysP = sysB := rfl
    unfold tabBase
    rw [hbp]
    have hbase := h.base
    cases bs with
    | none =>
      have hbase : D.get sysB = none := hbase
      have hk : D.kind sysB = 0 := by unfold Dk.kind; rw [Dk.has_get, hbase]; rfl
      rw [if_pos hk]
      rfl
    | some ops =>
      have hbase : Kept D sysB (packE (recordE ops)) := hbase
      have hsm : szL ops ≤ 274877906944 := hw.bsmall
      have hl := szL_len ops
      have hrl := recordE_len ops (smO_of (by omega)) (by omega)
      have ho := opsE_record ops (smO_of (by omega)) (by omega)
      rw [norm_clean (show Clean ops from hw.bclean)] at ho
      rw [hbase.kind, if_neg (by decide)]
      unfold tabLoad
      rw [hbp, hbase.read h.sys]
      dsimp only
      rw [if_neg (fun h => h rfl), readE_pack0 _ (by omega)]
      dsimp only
      rw [if_neg (fun h => h rfl), if_neg (Nat.lt_irrefl _), ho]
      dsimp only
      rw [if_neg (fun h => h rfl)]
      rfl
  unfold tabOpen
  rw [hmk]
  dsimp only
  rw [if_neg (fun h => h rfl), hb]
  dsimp only
  rw [if_neg (fun h => h rfl), show logP sysP = sysL from rfl, hwo]
  unfold tabLog
  dsimp only
  rw [replay_recs ls _ hw.clean hw.small, if_neg (fun h => h rfl)]
  rfl
theorem sysF_L : sysF sysL := .inl rfl
theorem sysF_LT : sysF sysLT := .inr (.inl rfl)
theorem sysF_B : sysF sysB := .inr (.inr (.inl rfl))
theorem sysF_BT : sysF sysBT := .inr (.inr (.inr rfl))
theorem Sys.walAdd (h : Sys D) {s : List UInt8} (hk : Kept D sysL s) (recs : List (List UInt8)) (dmg : Bool) (r : List UInt8) :
    ∃ D', walAdd ⟨sysL, recs, dmg⟩ D r = (0, ⟨sysL, recs ++ [r], dmg⟩, D') ∧ Sys D' ∧ Kept D' sysL (s ++ packE r) ∧ ∀ y, y ≠ sysL → D'.get y = D.get y := by
  obtain ⟨a1, a2, a3⟩ := h.append (r := packE r) sysF_L hk.has
  have g1 := a3 sysL
  rw [if_pos rfl] at g1
  obtain ⟨s1, s2, s3⟩ := a2.sync sysF_L (has_of_get g1)
  have g2 := s3 sysL
  rw [if_pos rfl, at_of_get g1] at g2
  obtain ⟨d1, d2⟩ := hk.data
  refine ⟨((D.append sysL (packE r)).2.sync sysL).2, ?_, s2, ⟨_, g2, d2, by rw [← d1], by rw [← d1], rfl, rfl⟩, fun y hy => by rw [s3, if_neg hy, a3, if_neg hy]⟩
  unfold Go.Proofs.YtobfdeiimnnanaaGreatDoor.walAdd
  dsimp only
  rw [if_neg (fun hh => hh a1), if_neg (fun hh => hh s1)]
  rfl
theorem baseIs_same {D D' : Dk} (h : D'.get sysB = D.get sysB) {bs : Option (List Chg)} (hb : baseIs D bs) : baseIs D' bs := by
  cases bs with
  | none => exact h.trans hb
  | some ops => obtain ⟨x, h1, h2⟩ := hb; exact ⟨x, h.trans h1, h2⟩
theorem TabSt.pack (h : Sys D) (rows : Rws) (recs : List (List UInt8)) (dmg : Bool) : ∃ D', tabPack ⟨sysP, rows, ⟨sysL, recs, dmg⟩⟩ D = (0, ⟨sysP, rows, ⟨sysL, [], dmg⟩⟩, D') ∧ TabSt D' (some (packL rows)) [] := by
  obtain ⟨f1, f2, f3, f4, f5⟩ := h.fill (p := sysB) (s := packE (recordE (packL rows))) sysF_B sysF_BT (by decide)
  obtain ⟨g1, g2, g3, g4, g5⟩ := f2.fill (p := sysL) (s := []) sysF_L sysF_LT (by decide)
  refine ⟨_, ?_, ⟨g2, g3, ?_⟩⟩
  · unfold tabPack
    dsimp only
    rw [show baseP sysP = sysB from rfl, if_neg (fun hh => hh f1), g1]
    rfl
  · obtain ⟨x, h1, h2⟩ := f3
    exact ⟨x, by rw [g5 sysB (by decide) (by decide)]; exact h1, h2⟩
theorem map_snoc (ls : List (List Chg)) (ops : List Chg) : ls.map recordE ++ [recordE ops] = (ls ++ [ops]).map recordE := by simp
theorem TabSt.commit (h : TabSt D bs ls) (rows : Rws) (ops : List Chg) (hne : ops ≠ []) (hf : ls.length < 15) :
    ∃ D', tabCommit ⟨sysP, rows, ⟨sysL, ls.map recordE, false⟩⟩ D ops = (0, ⟨sysP, applyE rows ops, ⟨sysL, (ls ++ [ops]).map recordE, false⟩⟩, D') ∧ TabSt D' bs (ls ++ [ops]) := by
  obtain ⟨D', hwa, hs, hk, hg⟩ := h.sys.walAdd h.log (ls.map recordE) false (recordE ops)
  refine ⟨D', ?_, hs, ?_, baseIs_same (hg _ (by decide)) h.base⟩
  · unfold tabCommit
    dsimp only
    rw [if_neg hne, hwa]
    dsimp only
    rw [if_neg (fun hh => hh rfl), if_neg (by simp; omega), map_snoc]
  · rw [← map_snoc, frames_app, frames_one]
    exact hk
theorem TabSt.commit16 (h : TabSt D bs ls) (rows : Rws) (ops : List Chg) (hne : ops ≠ []) (hf : ls.length = 15) :
    ∃ D', tabCommit ⟨sysP, rows, ⟨sysL, ls.map recordE, false⟩⟩ D ops = (0, ⟨sysP, applyE rows ops, ⟨sysL, [], false⟩⟩, D') ∧ TabSt D' (some (packL (applyE rows ops))) [] := by
  obtain ⟨D1, hwa, hs, hk, hg⟩ := h.sys.walAdd h.log (ls.map recordE) false (recordE ops)
  obtain ⟨D2, hp, ht⟩ := TabSt.pack hs (applyE rows ops) (ls.map recordE ++ [recordE ops]) false
  refine ⟨D2, ?_, ht⟩
  unfold tabCommit
  dsimp only
  rw [if_neg hne, hwa]
  dsimp only
  rw [if_neg (fun hh => hh rfl), if_pos (by simp; omega), hp]
end
def Dt0 : Dk := ⟨[(sysP, { It0 with dir := true }), (sysL, ⟨false, [], [], false, false, 2⟩)], [], 4, 2, -1, false⟩
theorem open_first : tabOpen Dk0 sysP = (0, some ⟨sysP, [], ⟨sysL, [], false⟩⟩, Dt0) := by kernel_rfl
theorem Dt0_st : TabSt Dt0 none [] := by
  refine ⟨⟨rfl, by decide, rfl, by decide, by kernel_rfl, by kernel_rfl, fun p hp => ?_⟩, ⟨⟨false, [], [], false, false, 2⟩, by kernel_rfl, rfl, rfl, rfl, rfl, rfl⟩, (show Dt0.get sysB = none by kernel_rfl)⟩
  rcases hp with rfl | rfl | rfl | rfl
  all_goals kernel_rfl
theorem Dk0_sm {B : Nat} : Dk0.Sm B := ⟨rfl, by simp [Dk0]⟩
end Go.Proofs.YtobfdeiimnnanaaGreatDoor

/- What is proved: an argument that the form reads as data reads as plain data through the codecs, and how its bulk bounds it. Conditions: none. -/
namespace Go.Proofs.YtobfdeiimnnanaaGreatDoor
open Go Go.J Go.RowKit Go.ChangeShapes Go.WideShapes Go.Deep
def Opens {α : Type} (P : Program) (t : TypeId) (c : Cod α) (Q : α → Nat → Prop) : Prop :=
  ∀ {H : Type} (enc : TypeId × Value → H) (W : World) (fuel : Nat) (cs : List Value) (x : DataW H × List MemPlace), DataW.trod enc P W 0 (fun _ => true) true fuel t cs = some x → ∃ y, c.rd (Old W) W cs y ∧ Q y (Rows.uptoBulk x.1)
def QL {α : Type} (Q : α → Nat → Prop) (ys : List α) (b : Nat) : Prop := ∃ bs : List Nat, bs.length = ys.length ∧ (∀ i (h : i < ys.length) (h' : i < bs.length), Q ys[i] bs[i]) ∧ bs.sum + 1 ≤ b
theorem bulkAll_sum {H : Type} (l : List (DataW H)) : Rows.uptoBulkAll l = (l.map Rows.uptoBulk).sum := by
  induction l with
  | nil => simp [Rows.uptoBulkAll]
  | cons d l ih => simp [Rows.uptoBulkAll, ih]
theorem Opens.int {P : Program} {t : TypeId} (ht : P.underlying t = some (.int .i64)) : Opens P t cInt (fun n b => -9223372036854775808 ≤ n ∧ n ≤ 9223372036854775807 ∧ 1 ≤ b) := by
  intro H enc W fuel cs x h
  obtain ⟨n, rfl, rfl, hw⟩ := DataW.trod_int ht h
  refine ⟨n, rfl, ?_⟩
  have h1 := bounds_i64 hw
  exact ⟨h1.1, h1.2, by simp [Rows.uptoBulk]⟩
theorem Opens.str {P : Program} {t : TypeId} (ht : P.underlying t = some .string) : Opens P t cStr (fun s b => s.length + 1 ≤ b) := by
  intro H enc W fuel cs x h
  obtain ⟨s, rfl, rfl, hw⟩ := DataW.trod_string ht h
  exact ⟨s.data.toList, rfl, by simp [Rows.uptoBulk]⟩
theorem Opens.slice {α : Type} [Inhabited α] {P : Program} {t e : TypeId} {c : Cod α} {Q : α → Nat → Prop} (ht : P.underlying t = some (.slice e)) (he : P.cellsOf e = c.sz) (hs : 0 < c.sz) (ho : Opens P e c Q) : Opens P t (cSl c) (QL Q) := by
  intro H enc W fuel cs x h
  rcases open_slice ht h with ⟨rfl, rfl⟩ | ⟨a, len, cap, m, n, D, Pl, rfl, hb, hl, hm, hmm, rfl, hx⟩
  · exact ⟨[], ⟨none, 0, rfl, Nat.le_refl _, fun k hk => absurd hk (by simp)⟩, [], rfl, fun i h => absurd h (by simp), by simp [Rows.uptoBulk]⟩
  · have hml : len ≤ m := by rw [hmm]; simp; omega
    have key : ∀ i, i < len → ∃ y : α, (∃ es, c.rd (Old W) W es y ∧ (a.add (i * c.sz)).block < W.heap.size ∧ (∀ j v, es[j]? = some v → W.cell? ((a.add (i * c.sz)).add j) = some v)) ∧ Q y (Rows.uptoBulk (D i)) := by
      intro i hi
      obtain ⟨cs', hc, htr⟩ := hx i (by omega)
      rw [he] at hc
      obtain ⟨y, hy, hq⟩ := ho enc W n cs' _ htr
      obtain ⟨_, hlen, hat⟩ := World.cells?_some hc
      refine ⟨y, ⟨cs', hy, ?_, fun j v hv => ?_⟩, hq⟩
      · have h0 := hat 0 hs
        have hlt : 0 < cs'.length := by omega
        rw [List.getElem?_eq_getElem hlt] at h0
        have hlt' := World.block_lt_of_cell? W _ h0
        have e0 : ((a.add (i * c.sz)).add 0).block = (a.add (i * c.sz)).block := by simp [Addr.add]
        rwa [e0] at hlt'
      · have hj : j < cs'.length := (List.getElem?_eq_some_iff.1 hv).1
        rw [hat j (by omega)]; exact hv
    obtain ⟨Y, hY⟩ := choose_lt key
    have hspot : 0 < len → a.spot = none := fun h0 => by
      obtain ⟨es, hrd, hbl, hc⟩ := (hY 0 h0).1
      have hl := c.len hrd
      have h1 := hc 0 es[0] (List.getElem?_eq_getElem (by omega))
      have e : (a.add (0 * c.sz)).add 0 = a := by simp [Addr.add]
      rw [e] at h1
      unfold World.cell? at h1
      cases hsp : a.spot with
      | none => rfl
      | some s => simp [hsp] at h1; split at h1 <;> simp at h1
    refine ⟨(List.range len).map Y, ⟨some a, cap, by simp, by simpa using hl, fun k hk => ?_⟩, (List.range len).map fun i => Rows.uptoBulk (D i), by simp, fun i h h' => ?_, ?_⟩
    · have hk' : k < len := by simpa using hk
      obtain ⟨es, hrd, hbl, hc⟩ := (hY k hk').1
      have ha : a = ⟨a.block, a.off, none⟩ := by rw [← hspot (by omega)]
      refine ⟨a.block, a.off, es, by rw [← ha], ?_, fun j v hv => ?_, by simpa using hrd⟩
      · have : (a.add (k * c.sz)).block = a.block := by unfold Addr.add; split <;> rfl
        rw [this] at hbl; exact hbl
      · have := hc j v hv
        rw [Go.Deep.add_add, ha, Addr.add_mid] at this
        rw [← Nat.add_assoc] at this
        exact this
    · have hi : i < len := by simpa using h
      simpa using (hY i hi).2
    · simp only [Rows.uptoBulk, bulkAll_sum, List.map_map]
      have : ((List.range len).map (Rows.uptoBulk ∘ D)) = (List.range len).map fun i => Rows.uptoBulk (D i) := rfl
      rw [this]
      omega
section
variable {H : Type} {enc : TypeId × Value → H} {P : Program}
theorem post_of_below {f : Func} {s : ChangeSpec} {apart fresh handsOn again : Bool} {W W' : World} {args : Array Value} {v : Value} {ds gs : List (DataW H)} {before pa pv : List MemPlace}
    (hW : DataW.Whole enc P f.params.toList s.vars apart W args.toList ds gs before)
    (hres : ∀ (b : Nat) (sp : Nat → Bool) (hd : Bool), DataW.TrodAll enc P W' b sp hd f.resultTypes.toList (v.resultList f.resultTypes.size) (s.fn H (ds ++ gs)).results [])
    (hargs : ∀ sp : Nat → Bool, (∀ p ∈ before, sp p.block = true) → DataW.TrodAll enc P W' 0 sp true f.params.toList args.toList (s.fn H (ds ++ gs)).args pa)
    (hvars : ∀ sp : Nat → Bool, (∀ p ∈ before, sp p.block = true) → DataW.TrodVars enc P W' sp s.vars (s.fn H (ds ++ gs)).vars pv)
    (hps : before = pa ++ pv) (hb : Below W.heap.size W W')
    (hok : ∀ (j : Nat) (t : TypeId) (r : Value), f.resultTypes[j]? = some t → (v.resultList f.resultTypes.size)[j]? = some r → Value.okWide P W' .any 0 t r) :
    s.post enc P f apart fresh handsOn again W args v W' := by
  have hlt : ∀ p ∈ before, p.block < W.heap.size := fun p hp => hW.lt p hp
  have hold : ∀ p ∈ before, (fun b => decide (b < W.heap.size)) p.block = true := fun p hp => by simpa using hlt p hp
  refine ⟨ds, gs, before, [], pa, pv, hW, hres _ _ _, hargs _ hold, hvars _ hold, World.keptBut_mono (fun p hp => ⟨hp, ?_⟩) (hb.frame (· ∈ before)), fun _ => ?_⟩
  · rw [hps, List.mem_append] at hp
    exact Or.inr hp
  · obtain ⟨_, _, _, _, _, hz, hn⟩ := hW
    refine ⟨hok, _, _, ([] ++ pa) ++ pv, ⟨[] ++ pa, pv, trodAll_append (hargs _ (fun _ _ => rfl)) (hres _ _ _), hvars _ (fun _ _ => rfl), rfl, ?_, ?_⟩, ?_⟩
    · intro b off hp
      have hin : MemPlace.cell b off ∈ before := by rw [hps]; simpa using hp
      rw [hb.frozen (hlt _ hin)]
      exact hz b off hin
    · intro ha
      have := hn ha
      rw [hps] at this
      simpa using this
    · intro p hp _
      rw [hps]
      simpa using hp
end
end Go.Proofs.YtobfdeiimnnanaaGreatDoor

/- What is proved: how a statement's arguments open to plain data, and that a call which answers true and leaves old memory alone meets the law's form. Conditions: none. -/
namespace Go.Proofs.YtobfdeiimnnanaaGreatDoor
open Go Go.J Go.RowKit Go.ChangeShapes Go.WideShapes Go.ChangeAt Go.Deep
def Arg {α : Type} (P : Program) (t : TypeId) (A : World → Value → α → Prop) (Q : α → Nat → Prop) : Prop :=
  ∀ {H : Type} (enc : TypeId × Value → H) (W : World) (base : Nat) (v : Value) (d : DataW H) (p : List MemPlace), Value.okWide P W .any base t v → DataW.Trod enc P W 0 (fun _ => true) true t v d p → ∃ y, A W v y ∧ Q y (Rows.uptoBulk d)
def AInt (_ : World) (v : Value) (n : Int) : Prop := v = .int .i64 n
def QInt (n : Int) (b : Nat) : Prop := -9223372036854775808 ≤ n ∧ n ≤ 9223372036854775807 ∧ 1 ≤ b
def AStr (_ : World) (v : Value) (s : List UInt8) : Prop := v = str s
def QStr (s : List UInt8) (b : Nat) : Prop := s.length + 1 ≤ b
def ASl {α : Type} (c : Cod α) (W : World) (v : Value) (xs : List α) : Prop := ∃ A cap, v = .slice A xs.length cap ∧ xs.length ≤ cap ∧ SlAt c (Old W) W A xs
def AAgg {α : Type} (c : Cod α) (W : World) (v : Value) (y : α) : Prop := ∃ cs, v = .agg ⟨cs⟩ ∧ c.rd (Old W) W cs y
theorem Arg.int {P : Program} {t : TypeId} (ht : P.underlying t = some (.int .i64)) : Arg P t AInt QInt := by
  intro H enc W base v d p hk hd
  obtain ⟨n, rfl⟩ := okWide_int ht hk
  obtain ⟨fuel, hf⟩ := hd
  obtain ⟨y, hy, hq⟩ := Opens.int ht enc W fuel _ _ hf
  have hy' : [Value.int .i64 n] = [.int .i64 y] := hy
  simp only [List.cons.injEq, Value.int.injEq, true_and, and_true] at hy'
  exact ⟨y, by rw [hy']; rfl, hq⟩
theorem Arg.str {P : Program} {t : TypeId} (ht : P.underlying t = some .string) : Arg P t AStr QStr := by
  intro H enc W base v d p hk hd
  obtain ⟨s, rfl⟩ := okWide_string ht hk
  obtain ⟨fuel, hf⟩ := hd
  obtain ⟨y, hy, hq⟩ := Opens.str ht enc W fuel _ _ hf
  have hy' : [Value.string s] = [Go.J.str y] := hy
  exact ⟨y, by show Value.string s = Go.J.str y; simpa using hy', hq⟩
theorem Arg.slice {α : Type} {P : Program} {t e : TypeId} {c : Cod α} {Q : List α → Nat → Prop} (ht : P.underlying t = some (.slice e)) (ho : Opens P t (cSl c) Q) : Arg P t (ASl c) Q := by
  intro H enc W base v d p hk hd
  obtain ⟨a, len, cap, rfl⟩ := okWide_slice ht hk
  obtain ⟨fuel, hf⟩ := hd
  obtain ⟨y, ⟨A, cap', e0, hcap, hsl⟩, hq⟩ := ho enc W fuel _ _ hf
  have e0' : [Value.slice a len cap] = [.slice A y.length cap'] := e0
  exact ⟨y, ⟨A, cap', by simpa using e0', hcap, hsl⟩, hq⟩
theorem Arg.agg {α : Type} {P : Program} {t : TypeId} {fs : Array Field} {c : Cod α} {Q : α → Nat → Prop} (ht : P.underlying t = some (.struct fs)) (ho : Opens P t c Q) : Arg P t (AAgg c) Q := by
  intro H enc W base v d p hk hd
  obtain ⟨cs, rfl, _⟩ := okWide_struct ht hk
  obtain ⟨fuel, hf⟩ := hd
  obtain ⟨y, hy, hq⟩ := ho enc W fuel _ _ hf
  exact ⟨y, ⟨cs.toList, by cases cs; rfl, hy⟩, hq⟩
theorem own : ownKnob Tryz.prog.godebug = none := by kernel_rfl
theorem laid : laidOutB Tryz.prog = true := by kernel_rfl
theorem all_stays {H : Type} {enc : TypeId × Value → H} {P : Program} (hl : laidOutB P = true) {W W' : World} (hu : Upd [] W W') {sp : Nat → Bool} : ∀ {ts : List TypeId} {vs : List Value} {ds : List (DataW H)} {p : List MemPlace}, (ts.all fun t => P.readableRec t && decide (t < P.types.size)) = true →
    DataW.TrodAll enc P W 0 (fun _ => true) true ts vs ds p → (∀ x ∈ p, x.block < W.heap.size) → (∀ x ∈ p, sp x.block = true) → DataW.TrodAll enc P W' 0 sp true ts vs ds p
  | [], [], [], p, _, h, _, _ => h
  | t :: ts, vs, ds, p, hr, h, hlt, hsp => by
    obtain ⟨v, vs', d, ds', p1, q1, rfl, rfl, rfl, h1, h2⟩ := trodAll_cons h
    simp only [List.all_cons, Bool.and_eq_true] at hr
    refine trodAll_cons_mk ?_ (all_stays hl hu (by simpa using hr.2) h2 (fun x hx => hlt x (by simp [hx])) fun x hx => hsp x (by simp [hx]))
    exact WideElems.Trod_stays hl hr.1.1 (of_decide_eq_true hr.1.2) h1 (fun x hx => hu.below.same (hlt x (by simp [hx]))) (fun x hx => hsp x (by simp [hx]))
  | [], [], _ :: _, _, _, h, _, _ => by simp [DataW.TrodAll] at h
  | [], _ :: _, _, _, _, h, _, _ => by simp [DataW.TrodAll] at h
theorem all_len {H : Type} {enc : TypeId × Value → H} {P : Program} {W : World} {sp : Nat → Bool} : ∀ {ts : List TypeId} {vs : List Value} {ds : List (DataW H)} {p : List MemPlace}, DataW.TrodAll enc P W 0 sp true ts vs ds p → ds.length = ts.length
  | [], [], [], _, _ => rfl
  | t :: ts, vs, ds, p, h => by
    obtain ⟨v, vs', d, ds', p1, q1, rfl, rfl, rfl, h1, h2⟩ := trodAll_cons h
    simp [all_len h2]
  | [], [], _ :: _, _, h => by simp [DataW.TrodAll] at h
  | [], _ :: _, _, _, h => by simp [DataW.TrodAll] at h
theorem law_post {H : Type} {enc : TypeId × Value → H} {P : Program} (hl : laidOutB P = true) {f : Func} {s : ChangeSpec} {tb : TypeId} {W W' : World} {args : Array Value} {ds gs : List (DataW H)} {before : List MemPlace}
    (hb : P.underlying tb = some .bool) (hrt : f.resultTypes = #[tb]) (hread : (f.params.toList.all fun t => P.readableRec t && decide (t < P.types.size)) = true) (hv : s.vars = [])
    (hs : ∀ ds : List (DataW H), ds.length = f.params.toList.length → (s.fn H ds).results = [.lit (.bool true)] ∧ (s.fn H ds).args = ds ∧ (s.fn H ds).vars = [])
    (hW : DataW.Whole enc P f.params.toList s.vars false W args.toList ds gs before) (hu : Upd [] W W') : s.post enc P f false true false false W args (.bool true) W' := by
  obtain ⟨p, q, hA, hV, rfl, hfz, hnd⟩ := id hW
  have hV' := hV
  rw [hv] at hV'
  obtain ⟨rfl, rfl⟩ := trodVars_none hV'
  have hlen := all_len hA
  obtain ⟨h1, h2, h3⟩ := hs ds hlen
  have hlt : ∀ x ∈ p, x.block < W.heap.size := fun x hx => hW.lt x (by simp [hx])
  refine post_of_below (pa := p) (pv := []) hW (fun _ _ _ => ?_) (fun sp hsp => ?_) (fun sp hsp => ?_) rfl hu.below (fun j t r hj hr => ?_)
  · rw [hrt, List.append_nil, h1]
    exact trodAll_cons_mk (shut_bool hb _) trodAll_mk0
  · rw [List.append_nil, h2]
    exact all_stays hl hu hread hA hlt fun x hx => hsp x (by simp [hx])
  · rw [hv, List.append_nil, h3]
    exact rfl
  · exact ok_one hrt rfl (okWide_bool_mk hb _) j t r hj hr
end Go.Proofs.YtobfdeiimnnanaaGreatDoor

/- What is proved: a table on a quiet disk, opened and committed to by the program; the law's awake. Conditions: texts and lists of bounded length. -/
namespace Go.Proofs.YtobfdeiimnnanaaGreatDoor
open Go Go.J Go.RowKit
theorem applyE_len : ∀ (l : List Chg) (rows : Rws), (applyE rows l).length ≤ rows.length + l.length
  | [], rows => Nat.le_refl _
  | o :: l, rows => by
    rw [applyE_cons]
    have h := applyE_len l (if o.gone then mdel rows o.key else mset rows o.key o.val)
    have h2 : (if o.gone then mdel rows o.key else mset rows o.key o.val).length ≤ rows.length + 1 := by
      split
      · exact Nat.le_trans (mdel_sub _ _).length_le (Nat.le_succ _)
      · have h3 := mset_keys rows o.key o.val
        have h4 := congrArg List.length h3
        rw [List.length_map] at h4
        rw [h4]
        split
        · rw [List.length_map]; omega
        · rw [List.length_append, List.length_map]; simp
    simp only [List.length_cons]
    omega
theorem pack_small {rows : Rws} (hn : (rows.map Prod.fst).Nodup) {B : Nat} (h : szR rows ≤ B) (hB : B ≤ 500000000000) : (recordE (packL rows)).length ≤ B + 10 ∧ (packE (recordE (packL rows))).length ≤ B + 34 := by
  have h1 := szL_pack hn
  have h2 := szL_len (packL rows)
  have h3 := recordE_len (packL rows) (smO_of (by omega)) (by omega)
  have h4 := packE_len (recordE (packL rows))
  have h5 := putN_len10 (n := (recordE (packL rows)).length) (by omega)
  omega
theorem tabPack_sm {T : Tb} {D : Dk} {B : Nat} (h : D.Sm B) (hp : (packE (recordE (packL T.rows))).length ≤ B) : (tabPack T D).2.2.Sm B := by
  unfold tabPack
  split
  · exact h.fill hp
  · exact (h.fill hp).fill (Nat.zero_le _)
theorem walAdd_smB {D : Dk} {G : Lg} {r : List UInt8} {B : Nat} (h : D.Sm B) (hr : r.length ≤ 1073741824) : (walAdd G D r).2.2.Sm (B + 1073742000) := by
  have hpk := packE_len r
  have hpn := putN_len10 (n := r.length) (by omega)
  have h1 : (D.append G.p (packE r)).2.Sm (B + 1073742000) := h.append (by omega)
  unfold walAdd
  repeat' split
  · exact h1
  · exact h1.sync
  · exact h1.sync
theorem tabCommit_sm {T : Tb} {D : Dk} {ops : List Chg} {B : Nat} (h : D.Sm B) (hr : (recordE ops).length ≤ 1073741824) (hp : (packE (recordE (packL (applyE T.rows ops)))).length ≤ B + 1073742000) : (tabCommit T D ops).2.2.Sm (B + 1073742000) := by
  have h1 := walAdd_smB (G := T.log) h hr
  unfold tabCommit
  repeat' split
  · exact h.up (Nat.le_add_right _ _)
  · exact h1
  · exact tabPack_sm h1 hp
  · exact h1
theorem Dt0_sm {B : Nat} : Dt0.Sm B := by
  refine ⟨rfl, fun x hx => ?_⟩
  simp only [Dt0, List.mem_cons, List.not_mem_nil, or_false] at hx
  rcases hx with rfl | rfl
  · exact Nat.zero_le _
  · exact Nat.zero_le _
theorem topenFirst_c {q mb lb : Nat} {w0 : World} (hi : InL w0 [dkC q mb lb Dk0]) :
    Cal Tryz.prog 13 [.pointer (some ⟨q, 0, none⟩), str sysP] w0 (fun v w' => ∃ Tp fp, v = .tuple #[.pointer (some ⟨Tp, 0, none⟩), .int .i64 0] ∧ MutL w0 w' [dkC q mb lb Dk0] [tabC Tp q ⟨sysP, [], ⟨sysL, [], false⟩⟩ fp, dkC q mb lb Dt0]) := by
  have h := topen_c sysP hi (by decide) Dk0_sm (fun e G D' h => by
    have h2 : walOpen (tabMk Dk0 sysP).2 (logP sysP) = (0, some ⟨sysL, [], false⟩, Dt0) := by kernel_rfl
    rw [h2] at h
    cases h
    exact ⟨by decide, by simp⟩)
  rw [open_first] at h
  exact h
theorem topenSt_c {q mb lb : Nat} {D : Dk} {bs : Option (List Chg)} {ls : List (List Chg)} {w0 : World} (hi : InL w0 [dkC q mb lb D]) (hst : TabSt D bs ls) (hw : TabWf bs ls) (hno : D.Sm 1099511627776) :
    Cal Tryz.prog 13 [.pointer (some ⟨q, 0, none⟩), str sysP] w0 (fun v w' => ∃ Tp fp, v = .tuple #[.pointer (some ⟨Tp, 0, none⟩), .int .i64 0] ∧ MutL w0 w' [dkC q mb lb D] [tabC Tp q ⟨sysP, rowsOf bs ls, ⟨sysL, ls.map recordE, false⟩⟩ fp, dkC q mb lb D]) := by
  have h := topen_c sysP hi (by decide) hno (fun e G D' h => by
    have hmk : (tabMk D sysP).2 = D := by unfold tabMk; rw [hst.sys.kindP, if_neg (by decide)]
    rw [hmk, show logP sysP = sysL from rfl, hst.walOpen hw] at h
    cases h
    refine ⟨by rw [List.length_map]; have := hw.few; omega, fun r hr => ?_⟩
    obtain ⟨l, hl, rfl⟩ := List.mem_map.1 hr
    have := rec_small (hw.small l hl)
    omega)
  rw [hst.open hw] at h
  exact h
theorem getE_of {rows : Rws} {f : List UInt8 → Option (List UInt8)} (h : RowsAre rows f) (k : List UInt8) : getE rows k = ((f k).getD [], (f k).isSome) := by unfold getE; rw [h.2]
end Go.Proofs.YtobfdeiimnnanaaGreatDoor

/- What is proved: batches filled with changes: what they answer, and what the table answers once they are committed; the law's fill. Conditions: texts and lists of bounded length. -/
namespace Go.Proofs.YtobfdeiimnnanaaGreatDoor
open Go Go.J Go.RowKit Go.ChangeShapes Go.WideShapes Go.ChangeAt Go.Deep
def QChg (o : Chg) (b : Nat) : Prop := o.key.length + o.val.length + 4 ≤ b
theorem Opens.bool {P : Program} {t : TypeId} (ht : P.underlying t = some .bool) : Opens P t cBool (fun _ b => 1 ≤ b) := by
  intro H enc W fuel cs x h
  obtain ⟨b, rfl, rfl⟩ := DataW.trod_bool ht h
  exact ⟨b, rfl, by simp [Rows.uptoBulk]⟩
instance : Inhabited Chg := ⟨Chg0⟩
def fillE (m : Bch) (l : List Chg) : Bch := l.foldl (fun m o => noteE m (normO o)) m
structure BchOk (m : Bch) : Prop where
  nd : (m.map Prod.fst).Nodup
  key : ∀ p ∈ m, p.1 = p.2.key
  clean : Clean (m.map Prod.snd)
theorem mset_mem {β : Type} {m : List (List UInt8 × β)} {x : List UInt8} {v : β} {p : List UInt8 × β} (h : p ∈ mset m x v) : p ∈ m ∨ p = (x, v) := by
  induction m with
  | nil => simp [mset] at h; exact .inr h
  | cons a r ih =>
    obtain ⟨k, u⟩ := a
    unfold mset at h
    split at h
    · rename_i e
      rcases List.mem_cons.1 h with rfl | h
      · exact .inr (by rw [e])
      · exact .inl (List.mem_cons_of_mem _ h)
    · rcases List.mem_cons.1 h with rfl | h
      · exact .inl (List.mem_cons_self ..)
      · rcases ih h with h | h
        · exact .inl (List.mem_cons_of_mem _ h)
        · exact .inr h
theorem normO_clean (o : Chg) : (normO o).gone = true → (normO o).val = [] := by
  unfold normO
  split
  · intro _; rfl
  · rename_i h; intro hg; exact absurd hg h
theorem BchOk.nil : BchOk [] := ⟨by simp, by simp, by intro o ho; simp at ho⟩
theorem BchOk.note {m : Bch} (h : BchOk m) (o : Chg) : BchOk (noteE m (normO o)) := by
  refine ⟨mset_nodup h.nd _ _, fun p hp => ?_, fun x hx => ?_⟩
  · rcases mset_mem hp with hp | rfl
    · exact h.key p hp
    · rfl
  · obtain ⟨p, hp, rfl⟩ := List.mem_map.1 hx
    rcases mset_mem hp with hp | rfl
    · exact h.clean _ (List.mem_map_of_mem hp)
    · exact normO_clean o
theorem BchOk.fill : ∀ {l : List Chg} {m : Bch}, BchOk m → BchOk (fillE m l)
  | [], _, h => h
  | o :: l, m, h => BchOk.fill (l := l) (h.note o)
theorem szB_note (m : Bch) (o : Chg) : szL ((noteE m o).map Prod.snd) ≤ szL (m.map Prod.snd) + szO o ∧ (noteE m o).length ≤ m.length + 1 := by
  unfold noteE
  generalize o.key = x
  induction m with
  | nil => simp [mset, szL]
  | cons a r ih =>
    obtain ⟨k, u⟩ := a
    unfold mset
    split
    · simp only [szL, List.map_cons, List.sum_cons, List.length_cons]; omega
    · obtain ⟨h1, h2⟩ := ih
      simp only [szL, List.map_cons, List.sum_cons, List.length_cons] at h1 h2 ⊢
      omega
def wantE (k : List UInt8) (w : List UInt8 × Bool) (o : Chg) : List UInt8 × Bool := if o.key = k then (if o.gone then [] else o.val, !o.gone) else w
theorem mget_cons {β : Type} (a : List UInt8) (o : β) (m : List (List UInt8 × β)) (k : List UInt8) : mget ((a, o) :: m) k = if k = a then some o else mget m k := rfl
theorem applyF_bch : ∀ {m : Bch} (f : List UInt8 → Option (List UInt8)), (m.map Prod.fst).Nodup → (∀ p ∈ m, p.1 = p.2.key) → ∀ k, applyF f (m.map Prod.snd) k = match mget m k with | some o => (if o.gone then none else some o.val) | none => f k
  | [], f, _, _, k => rfl
  | (a, o) :: m, f, hn, hk, k => by
    have hn' : a ∉ m.map Prod.fst ∧ (m.map Prod.fst).Nodup := by simpa using hn
    have ha : a = o.key := hk _ (List.mem_cons_self ..)
    have ih := applyF_bch (m := m) (setF f o) hn'.2 (fun p hp => hk p (List.mem_cons_of_mem _ hp)) k
    show applyF (setF f o) (m.map Prod.snd) k = _
    rw [ih, mget_cons]
    by_cases e : k = a
    · subst e
      rw [if_pos rfl, mget_none.2 hn'.1]
      simp only [setF]
      rw [if_pos ha]
    · rw [if_neg e]
      cases mget m k with
      | none => simp only [setF]; rw [if_neg (fun h => e (h.trans ha.symm))]
      | some x => rfl
theorem getE_commit {rows : Rws} {f : List UInt8 → Option (List UInt8)} (hr : RowsAre rows f) {m : Bch} (h : BchOk m) (k : List UInt8) : getE (applyE rows (m.map Prod.snd)) k = bgetE rows m k := by
  rw [getE_of hr.apply, applyF_bch f h.nd h.key]
  unfold bgetE
  cases hg : mget m k with
  | none => rw [getE_of hr]
  | some o =>
    have hm := mget_mem hg
    have hc := h.clean o (List.mem_map_of_mem (f := Prod.snd) hm)
    cases hgo : o.gone with
    | true => simp [hc hgo, hgo]
    | false => simp [hgo]
theorem TabSt.commitAny {D : Dk} {bs : Option (List Chg)} {ls : List (List Chg)} (h : TabSt D bs ls) (hw : TabWf bs ls) (rows : Rws) (ops : List Chg) (hcl : Clean ops) (hsz : szL ops ≤ 1073000000) (hf : ls.length < 15) :
    ∃ D' ls', tabCommit ⟨sysP, rows, ⟨sysL, ls.map recordE, false⟩⟩ D ops = (0, ⟨sysP, applyE rows ops, ⟨sysL, ls'.map recordE, false⟩⟩, D') ∧ TabSt D' bs ls' ∧ TabWf bs ls' ∧ ls'.length ≤ ls.length + 1 ∧ rowsOf bs ls' = applyE (rowsOf bs ls) ops := by
  by_cases hne : ops = []
  · subst hne
    exact ⟨D, ls, rfl, h, hw, Nat.le_succ _, rfl⟩
  · obtain ⟨D', hcm, hst⟩ := h.commit rows ops hne hf
    refine ⟨D', ls ++ [ops], hcm, hst, ⟨by simp; omega, ?_, ?_, hw.bclean, hw.bsmall⟩, by simp, ?_⟩
    · intro l hl
      rcases List.mem_append.1 hl with hl | hl
      · exact hw.clean l hl
      · simp at hl; rw [hl]; exact hcl
    · intro l hl
      rcases List.mem_append.1 hl with hl | hl
      · exact hw.small l hl
      · simp at hl; rw [hl]; exact hsz
    · unfold rowsOf; rw [List.foldl_append]; rfl
section
variable {α : Type} {c : Cod α} {w0 w : World} {M : List Nat} {H : List Chunk} {Z : List Snap} {z : Snap} {k : Chunk}
end
end Go.Proofs.YtobfdeiimnnanaaGreatDoor

/- What is proved: 'slices.Sort' of a row of texts that the caller owns. Conditions: bounded length. -/
namespace Go.Proofs.YtobfdeiimnnanaaGreatDoor
open Go Go.J Go.RowKit Go.Maps Go.Sort Go.Shelf
theorem strs_enc (l : List (List UInt8)) : l.map encStr = strs l := by
  induction l with
  | nil => rfl
  | cons a l ih => simp only [List.map_cons, ih]; rfl
theorem RowAt.put {w : World} {e : TypeId} {g off n cap : Nat} {xs : List Value} (h : RowAt w e 1 (.slice (some ⟨g, off, none⟩) n cap) n xs) (ys : List (List UInt8)) (hy : ys.length = n) (k : Nat) (os : Array Obj) :
    RowAt (grow (putRow encStr (Sort.ahead w k) g off ys.toArray) os) e 1 (.slice (some ⟨g, off, none⟩) n cap) n (strs ys) ∧ Upd [g] w (grow (putRow encStr (Sort.ahead w k) g off ys.toArray) os) := by
  rcases h.2 with ⟨e0, _⟩ | ⟨g', off', cap', cur, e0, hg, hn, hm, hs, ht⟩
  · cases e0
  · simp only [Value.slice.injEq, Option.some.injEq, Addr.mk.injEq, true_and, and_true] at e0
    obtain ⟨⟨rfl, rfl⟩, rfl⟩ := e0
    have hlt : g < w.heap.size := (Array.getElem?_eq_some_iff.1 hg).1
    have hsz : (putRow encStr (Sort.ahead w k) g off ys.toArray).heap.size = w.heap.size := by rw [Go.Sort.size_putRow]; rfl
    have hput : (putRow encStr (Sort.ahead w k) g off ys.toArray).heap[g]? = some (.cells (putCells encStr off ys.toArray ⟨cur⟩) e (0, 0)) := by
      simp [putRow, mapBlock, Sort.ahead, Array.getElem?_modify, hg, onCells]
    have hgr : ∀ b, b < w.heap.size → (grow (putRow encStr (Sort.ahead w k) g off ys.toArray) os).heap[b]? = (putRow encStr (Sort.ahead w k) g off ys.toArray).heap[b]? := fun b hb => by
      show ((putRow encStr (Sort.ahead w k) g off ys.toArray).heap ++ os)[b]? = _
      rw [Array.getElem?_append_left (by rw [hsz]; exact hb)]
    refine ⟨⟨by rw [strs_len, hy, Nat.mul_one], .inr ⟨g, off, cap, (putCells encStr off ys.toArray ⟨cur⟩).toList, rfl, ?_, hn, hm, ?_, ?_⟩⟩, ⟨rfl, rfl, rfl, ?_, fun b hb hnb => ?_⟩⟩
    · rw [hgr g hlt, hput]
    · simpa [putCells] using hs
    · apply List.ext_getElem?
      intro j
      rw [List.getElem?_take, List.getElem?_drop, Array.getElem?_toList, ← strs_enc, List.getElem?_map]
      by_cases hj : j < n
      · have hjc : off + j < cur.length := by omega
        simp only [Nat.mul_one, if_pos hj, putCells, Array.getElem?_mapIdx]
        rw [show (Array.mk cur)[off + j]? = some cur[off + j] from by rw [show (Array.mk cur) = cur.toArray from rfl, List.getElem?_toArray]; exact List.getElem?_eq_getElem hjc]
        simp only [Option.map_some]
        rw [if_pos (by simp; omega), List.getElem?_eq_getElem (by omega)]
        simp [getElem!_pos, show j < ys.length by omega]
      · rw [if_neg (by omega), List.getElem?_eq_none (by omega)]
        rfl
    · show w.heap.size ≤ ((putRow encStr (Sort.ahead w k) g off ys.toArray).heap ++ os).size
      rw [Array.size_append, hsz]
      exact Nat.le_add_right _ _
    · rw [hgr b hb]
      have hne : ¬ g = b := fun e => hnb (by rw [← e]; exact List.mem_cons_self ..)
      simp [putRow, mapBlock, Sort.ahead, Array.getElem?_modify, hne]
theorem RowAt.holdsS {w : World} {e : TypeId} {g off n cap : Nat} {l : List (List UInt8)} (h : RowAt w e 1 (.slice (some ⟨g, off, none⟩) n cap) n (strs l)) (hl : l.length = n) : Holds encStr w g off l.toArray := by
  intro j hj
  have hj' : j < l.length := by simpa using hj
  rcases h.2 with ⟨e0, _⟩ | ⟨g', off', cap', cur, e0, hg, hn, hm, hs, ht⟩
  · cases e0
  · simp only [Value.slice.injEq, Option.some.injEq, Addr.mk.injEq, true_and, and_true] at e0
    obtain ⟨⟨rfl, rfl⟩, rfl⟩ := e0
    refine ⟨?_, by simp [World.frozen?, hg]⟩
    have hc := h.cells j (str l[j]) (by rw [strs_at hj'])
    rw [hc]
    simp [getElem!_pos, hj', encStr]
theorem sort_perm' {a b : List (List UInt8)} (h : a.Perm b) : a.mergeSort (fun x y => decide (x ≤ y)) = b.mergeSort (fun x y => decide (x ≤ y)) := mergeSort_of_perm h
theorem sort_c {A : Option Addr} {cap : Nat} {l : List (List UInt8)} {w0 : World} (hc : (Chunk.own (.slice A l.length cap) 9 1 l.length (strs l)).holds w0) (hi : inB (.own (.slice A l.length cap) 9 1 l.length (strs l)) w0) (hl : l.length ≤ 1099511627776) :
    Cal Tryz.prog 71 [.slice A l.length cap] w0 (fun v w' => v = .tuple #[] ∧ Mut w0 w' (.own (.slice A l.length cap) 9 1 l.length (strs l)) (.own (.slice A l.length cap) 9 1 l.length (strs (l.mergeSort (fun x y => decide (x ≤ y)))))) := by
  rcases l with _ | ⟨x, l⟩
  · exact ⟨by kernel_rfl, (AnyM.slices_Sort_string_none Tryz.sortL A cap w0).mono fun e w' ⟨h1, h2⟩ => ⟨_, h1, rfl, by rw [h2, List.mergeSort_nil]; exact ⟨.refl _ _, hc, fun b hb => .inl hb⟩⟩⟩
  · generalize hll : x :: l = ll at *
    have hpos : 0 < ll.length := by rw [← hll]; simp
    have hA : ∃ g off, A = some ⟨g, off, none⟩ := by
      rcases hc.2 with ⟨e0, hz⟩ | ⟨g, off, cap', cur, e0, _⟩
      · omega
      · simp only [Value.slice.injEq] at e0; exact ⟨g, off, e0.1⟩
    obtain ⟨g, off, rfl⟩ := hA
    have hg : g < w0.heap.size := hi g (by simp [Chunk.fp, Value.ownBlock])
    refine ⟨by kernel_rfl, (AnyM.slices_Sort_string Tryz.sortL g off cap ll w0 (RowAt.holdsS hc rfl) hg (by omega)).mono fun e w' ⟨h1, n, os, h2⟩ => ⟨_, h1, rfl, ?_⟩⟩
    subst h2
    have hlen : (ll.mergeSort (fun x y => decide (x ≤ y))).length = ll.length := (List.mergeSort_perm _ _).length_eq
    obtain ⟨r1, r2⟩ := RowAt.put hc (ll.mergeSort (fun x y => decide (x ≤ y))) hlen n os
    exact ⟨by simpa [Chunk.fp, Value.ownBlock] using r2, r1, fun b hb => .inl hb⟩
end Go.Proofs.YtobfdeiimnnanaaGreatDoor

/- What is proved: the keys of a table and of a batch. Conditions: lists of bounded length. -/
namespace Go.Proofs.YtobfdeiimnnanaaGreatDoor
open Go Go.J Go.RowKit
def begB (p k : List UInt8) : Bool := decide (k.take p.length = p)
def sortL (l : List (List UInt8)) : List (List UInt8) := l.mergeSort (fun x y => decide (x ≤ y))
theorem sortL_len (l : List (List UInt8)) : (sortL l).length = l.length := (List.mergeSort_perm _ _).length_eq
def keysP (rows : Rws) (p : List UInt8) : List (List UInt8) := sortL ((rows.map Prod.fst).filter (begB p))
theorem sort_perm {a b : List (List UInt8)} (h : a.Perm b) : sortL a = sortL b := sort_perm' h
theorem mmap_fst {β γ : Type} (f : β → γ) (m : List (List UInt8 × β)) : (mmap f m).map Prod.fst = m.map Prod.fst := by unfold mmap; rw [List.map_map]; rfl
theorem perm_mid {α : Type} (l1 l2 : List α) (x : α) : (l1 ++ x :: l2).Perm (x :: (l1 ++ l2)) := List.perm_middle
set_option maxHeartbeats 16000000 in
set_option maxRecDepth 100000 in
theorem tkeys_c {Tp q : Nat} {T : Tb} {fp : List Nat} (p : List UInt8) {w0 : World} (hi : InL w0 [tabC Tp q T fp]) (hn : T.rows.length ≤ 1099511627776) :
    Cal Tryz.prog 68 [.pointer (some ⟨Tp, 0, none⟩), str p] w0 (fun v w' => ∃ A cap, v = .slice A (keysP T.rows p).length cap ∧ MutL w0 w' [tabC Tp q T fp] [tabC Tp q T fp, .own (.slice A (keysP T.rows p).length cap) 9 1 (keysP T.rows p).length (strs (keysP T.rows p))]) := by
  refine Cal.mkL hi (by kernel_rfl) Tryz.func68 rfl rfl fun hS => ?_
  obtain ⟨_, ⟨m, L, fpl, rfl⟩, hfp, hS⟩ := St.objOpen (H := []) hS
  replace hS : St w0 (fps [tabC Tp q T fp]) w0 [tbB Tp (some ⟨q, 0, none⟩) T.dir (some ⟨L, 0, none⟩) m, rowsC m T.rows, lgC L q T.log fpl] (ZL w0 [tabC Tp q T fp]) := hS
  obtain ⟨rows, hrows⟩ : ∃ r, r = T.rows := ⟨_, rfl⟩
  rw [← hrows] at hS hn ⊢
  repeat' (first | (show WL _ _ _ _ _ _ _; first | refine WL.pure rfl rfl rfl rfl ?_ | refine WL.nil ?_ | refine WL.load hS rfl rfl (LdOk.box Mm rfl) rfl rfl rfl ?_ | (refine WL.slit (t := 44) hS rfl rfl rfl rfl rfl ?_; intro w ob hS; have hS := hS.boxRow (n := 0) (size := 1) .here rfl (Nat.zero_le _)) | (refine WL.mrange hS rfl rfl rfl (fun r => Rp) rfl rfl rfl ?_; intro w r hS)) | (show WC _ _ _ _ _ _; first | refine WC.seq ?_ | refine WC.region ?_ | refine WC.block ?_ | refine WC.skip ?_ | refine WC.condF rfl (by with_reducible rfl) ?_) | refine seqQ_n ?_)
  replace hS := hS.droplast2 (D := [.own (.slice (some ⟨ob, 0, none⟩) 0 0) 9 1 0 [], rngC m r (mmap encRow rows) (mmap encRow rows) none, tbB Tp (some ⟨q, 0, none⟩) T.dir (some ⟨L, 0, none⟩) m, lgC L q T.log fpl]) Pu
  refine WC.loop (σ := List (List UInt8) × KV × Option (List UInt8 × Value) × Option Addr × Nat) [1, 15] (fun (d, left, cur, A, cap) => [(5, .slice A d.length cap)])
    (fun (d, left, cur, A, cap) w => (d ++ (left.map Prod.fst).filter (begB p)).Perm ((rows.map Prod.fst).filter (begB p)) ∧ d.length + left.length ≤ rows.length ∧ St w0 (fps [tabC Tp q T fp]) w [.own (.slice A d.length cap) 9 1 d.length (strs d), rngC m r (mmap encRow rows) left cur, tbB Tp (some ⟨q, 0, none⟩) T.dir (some ⟨L, 0, none⟩) m, lgC L q T.log fpl] (ZL w0 [tabC Tp q T fp]))
    (fun (d, left, cur, A, cap) => left.length) ([], mmap encRow rows, none, some ⟨ob, 0, none⟩, 0) ⟨by rw [mmap_fst]; exact .refl _, by unfold mmap; simp, hS⟩ ⟨rfl, trivial⟩ ?_
  clear hS
  rintro ⟨d, left, cur, A, cap⟩ g w ⟨hpm, hdl, hS⟩
  show WC _ _ _ (lf _ [(5, .slice A d.length cap)] _ _) _ _
  rcases left with _ | ⟨x, left⟩
  · rw [List.map_nil, List.filter_nil, List.append_nil] at hpm
    have hsl : sortL d = keysP rows p := sort_perm hpm
    have hsn : d.length = (keysP rows p).length := by rw [← hsl, sortL_len]
    simp only [List.length_nil, Nat.add_zero] at hdl
    repeat' (first | (show WL _ _ _ _ _ _ _; first | refine WL.pure rfl rfl rfl rfl ?_ | refine WL.nil ?_ | (refine WL.mnext hS rfl rfl (fun l' p => Rp) rfl rfl rfl (fun _ => ?_) (fun l1 k v l2 h => absurd h (by simp))) | (refine WL.callL (D := [.own (.slice A d.length cap) 9 1 d.length (strs d)]) hS Pu rfl rfl (fun hI => sort_c hI.head hI.headB (by omega)) rfl rfl rfl ?_; rintro v w ⟨rfl, hm⟩ hS; replace hS := hS _ (.of1 hm); clear hm)) | (show WC _ _ _ _ _ _; first | refine WC.seq ?_ | refine WC.region ?_ | refine WC.exit ?_ | refine WC.ret ?_ | refine WC.condF rfl (by with_reducible rfl) ?_) | refine seqQ_n ?_ | refine seqQ_x ?_ | refine blkQ_hit rfl ?_ | refine rndQ_x ?_)
    have hS := hS.rngEnd (H' := [.own (.slice A d.length cap) 9 1 d.length (strs (sortL d)), mapC m (mmap encRow rows), tbB Tp (some ⟨q, 0, none⟩) T.dir (some ⟨L, 0, none⟩) m, lgC L q T.log fpl]) Rp
    subst hrows
    have hS := St.objClose (φ := tabφ Tp q T) (hS.pulls (D := [tbB Tp (some ⟨q, 0, none⟩) T.dir (some ⟨L, 0, none⟩) m, rowsC m T.rows, lgC L q T.log fpl]) Pu) ⟨m, L, fpl, rfl⟩
    rw [← hfp, hsl, hsn] at hS
    exact fin1r rfl rfl ⟨A, cap, by rw [hsn], hS.mutLp Pu⟩
  · have hcap := (hS.own_len (List.Mem.head _)).2.2
    repeat' (first | (show WL _ _ _ _ _ _ _; first | refine WL.pure rfl rfl rfl rfl ?_ | refine WL.nil ?_ | (refine WL.mnext hS rfl rfl (fun l' p => Rp) rfl rfl rfl (fun h => absurd h (by simp)) (fun l1 k v l2 hleft w hS => ?_)) | (refine WL.mentry hS rfl rfl Mm rfl rfl rfl ?_) | (refine WL.calls hS rfl rfl (hasPrefix_c k p _) rfl rfl rfl ?_; rintro v w rfl hS) | (refine WL.app hS rfl rfl rfl rfl (RdOk.box Mm) rfl rfl (fun A cap => Rp) (by omega) rfl rfl rfl ?_; intro A3 cap3 w hS) | (refine WL.slit hS rfl rfl rfl rfl rfl ?_; intro w b hS)) | (show WC _ _ _ _ _ _; first | refine WC.seq ?_ | refine WC.region ?_ | refine WC.block ?_ | refine WC.skip ?_ | refine WC.condT rfl (by with_reducible rfl) ?_ | (refine WC.cond rfl (fun h => ?_) (fun h => ?_) <;> (try simp only [ZZ0, ZZ1, ZZ2, ZZ3, ZZ4, ZZ5, ZZ6, ZZ7, ZZ8, ZZ9, ZZ10, ZZ11, ZZ12, ZZ13, ZZ14, ZZ15] at h) <;> (try (exfalso; first | omega | contradiction)))) | refine seqQ_n ?_ | refine blkQ_n ?_)
    all_goals
      rw [hleft] at hpm hdl
      have hpm2 : (d ++ ((k :: (l1 ++ l2).map Prod.fst).filter (begB p))).Perm ((rows.map Prod.fst).filter (begB p)) := by
        refine List.Perm.trans ?_ hpm
        refine List.Perm.append_left d (List.Perm.filter _ ?_)
        rw [List.map_append, List.map_append, List.map_cons]
        exact List.perm_middle.symm
    · have hb : begB p k = true := decide_eq_true h
      rw [List.filter_cons_of_pos hb] at hpm2
      exact rndQ_n (d ++ [k], l1 ++ l2, some (k, _), A3, cap3) ⟨by rw [List.append_assoc]; exact hpm2, by simp at hdl ⊢; omega, by
        have hS := hS.drop
        rw [List.length_append, ← strs_snoc]
        exact hS⟩ (by show (l1 ++ l2).length < (x :: left).length; rw [hleft]; simp) ⟨by rw [List.length_append]; rfl, trivial⟩ ⟨rfl, rfl, trivial⟩
    · have hb : ¬ begB p k = true := by unfold begB; rw [decide_eq_false h]; decide
      rw [List.filter_cons_of_neg hb] at hpm2
      exact rndQ_n (d, l1 ++ l2, some (k, _), A, cap) ⟨hpm2, by simp at hdl ⊢; omega, hS⟩ (by show (l1 ++ l2).length < (x :: left).length; rw [hleft]; simp) ⟨rfl, trivial⟩ ⟨rfl, rfl, trivial⟩
def newB (rows : Rws) (p : List UInt8) (x : List UInt8 × Chg) : Bool := !(mget rows x.1).isSome && !x.2.gone && begB p x.1
def oldB (m : Bch) (k : List UInt8) : Bool := !((mget m k).getD Chg0).gone
def bkeysP (rows : Rws) (m : Bch) (p : List UInt8) : List (List UInt8) := sortL ((keysP rows p).filter (oldB m) ++ (m.filter (newB rows p)).map Prod.fst)
theorem mmap_split {β γ : Type} {f : β → γ} {lc : List (List UInt8 × β)} {l1 l2 : List (List UInt8 × γ)} {k : List UInt8} {v : γ} (h : mmap f lc = l1 ++ (k, v) :: l2) : ∃ lc1 o lc2, l1 = mmap f lc1 ∧ v = f o ∧ l2 = mmap f lc2 ∧ lc = lc1 ++ (k, o) :: lc2 := by
  unfold mmap at h
  rw [List.map_eq_append_iff] at h
  obtain ⟨lc1, r, rfl, h1, h2⟩ := h
  rw [List.map_eq_cons_iff] at h2
  obtain ⟨x, lc2, rfl, h3, h4⟩ := h2
  obtain ⟨k', o⟩ := x
  simp only [Prod.mk.injEq] at h3
  obtain ⟨rfl, rfl⟩ := h3
  exact ⟨lc1, o, lc2, h1.symm, rfl, h4.symm, rfl⟩
theorem mmap_app {β γ : Type} (f : β → γ) (a b : List (List UInt8 × β)) : mmap f a ++ mmap f b = mmap f (a ++ b) := by unfold mmap; rw [List.map_append]
set_option maxHeartbeats 16000000 in
set_option maxRecDepth 100000 in
theorem bkeys_c {B Tp q : Nat} {T : Tb} {m : Bch} {fb fp : List Nat} (p : List UInt8) {w0 : World} (hi : InL w0 [bchC B (some ⟨Tp, 0, none⟩) m fb, tabC Tp q T fp]) (hn : T.rows.length ≤ 549755813888) (hm : m.length ≤ 549755813888) :
    Cal Tryz.prog 19 [.pointer (some ⟨B, 0, none⟩), str p] w0 (fun v w' => ∃ A cap, v = .slice A (bkeysP T.rows m p).length cap ∧ MutL w0 w' [bchC B (some ⟨Tp, 0, none⟩) m fb, tabC Tp q T fp] [bchC B (some ⟨Tp, 0, none⟩) m fb, tabC Tp q T fp, .own (.slice A (bkeysP T.rows m p).length cap) 9 1 (bkeysP T.rows m p).length (strs (bkeysP T.rows m p))]) := by
  refine Cal.mkL hi (by kernel_rfl) Tryz.func19 rfl rfl fun hS => ?_
  obtain ⟨_, ⟨A0, cap0, mb, rfl⟩, hfb, hS⟩ := St.objOpen hS
  replace hS : St w0 (fps [bchC B (some ⟨Tp, 0, none⟩) m fb, tabC Tp q T fp]) w0 [.box B 122 [.pointer (some ⟨Tp, 0, none⟩), .slice A0 m.length cap0, .map (some mb)], .own (.slice A0 m.length cap0) 9 1 m.length (strs (m.map Prod.fst)), mapC mb (mmap encChg m), tabC Tp q T fp] (ZL w0 [bchC B (some ⟨Tp, 0, none⟩) m fb, tabC Tp q T fp]) := hS
  have hkl : (keysP T.rows p).length ≤ 549755813888 := by
    unfold keysP
    rw [sortL_len]
    refine Nat.le_trans (List.length_filter_le _ _) ?_
    rw [List.length_map]
    exact hn
  have htk := fun (w0 : World) (hi : InL w0 [tabC Tp q T fp]) => tkeys_c p hi (by omega)
  unfold bkeysP
  generalize keysP T.rows p = K at *
  repeat' (first | (show WL _ _ _ _ _ _ _; first | refine WL.pure rfl rfl rfl rfl ?_ | refine WL.nil ?_ | refine WL.load hS rfl rfl (LdOk.box Mm rfl) rfl rfl rfl ?_ | (refine WL.slit (t := 44) hS rfl rfl rfl rfl rfl ?_; intro w ob hS; have hS := hS.boxRow (n := 0) (size := 1) .here rfl (Nat.zero_le _)) | (refine WL.callL (D := [tabC Tp q T fp]) hS Pu rfl rfl (fun hI => htk _ hI) rfl rfl rfl ?_; rintro v w ⟨AK, capK, rfl, hmu⟩ hS; replace hS := hS _ hmu; clear hmu)) | (show WC _ _ _ _ _ _; first | refine WC.seq ?_ | refine WC.region ?_ | refine WC.block ?_ | refine WC.skip ?_ | refine WC.condF rfl (by with_reducible rfl) ?_) | refine seqQ_n ?_)
  replace hS := hS.droplast2 (D := [.own (.slice (some ⟨ob, 0, none⟩) 0 0) 9 1 0 [], .own (.slice AK K.length capK) 9 1 K.length (strs K), .box B 122 [.pointer (some ⟨Tp, 0, none⟩), .slice A0 m.length cap0, .map (some mb)], .own (.slice A0 m.length cap0) 9 1 m.length (strs (m.map Prod.fst)), mapC mb (mmap encChg m), tabC Tp q T fp]) Pu
  clear htk
  refine WC.loop (σ := Nat × List (List UInt8) × Option Addr × Nat) [0, 1, 21, 22] (fun (k, d, A, cap) => [(5, .slice A d.length cap), (23, .int .i64 (k : Int))])
    (fun (k, d, A, cap) w => k ≤ K.length ∧ d = (K.take k).filter (oldB m) ∧ St w0 (fps [bchC B (some ⟨Tp, 0, none⟩) m fb, tabC Tp q T fp]) w [.own (.slice A d.length cap) 9 1 d.length (strs d), .own (.slice AK K.length capK) 9 1 K.length (strs K), .box B 122 [.pointer (some ⟨Tp, 0, none⟩), .slice A0 m.length cap0, .map (some mb)], .own (.slice A0 m.length cap0) 9 1 m.length (strs (m.map Prod.fst)), mapC mb (mmap encChg m), tabC Tp q T fp] (ZL w0 [bchC B (some ⟨Tp, 0, none⟩) m fb, tabC Tp q T fp]))
    (fun (k, _) => K.length - k) (0, [], some ⟨ob, 0, none⟩, 0) ⟨Nat.zero_le _, rfl, hS⟩ ⟨rfl, rfl, trivial⟩ ?_
  clear hS
  rintro ⟨k, d, A, cap⟩ g w ⟨hk, hd, hS⟩
  show WC _ _ _ (lf _ [(5, .slice A d.length cap), (23, .int .i64 (k : Int))] _ _) _ _
  have hdl : d.length ≤ k := by rw [hd]; refine Nat.le_trans (List.length_filter_le _ _) ?_; rw [List.length_take]; omega
  have hcap := (hS.own_len (List.Mem.head _)).2.2
  by_cases hlt : k < K.length
  · have hx : (strs K)[k * 1]? = some (str K[k]) := by rw [Nat.mul_one]; exact strs_at hlt
    have hnx : (K.take (k + 1)).filter (oldB m) = d ++ [K[k]].filter (oldB m) := by rw [List.take_succ_eq_append_getElem hlt, List.filter_append, ← hd]
    generalize K[k] = key at *
    have hlk := look_chg1 m key
    have hob : oldB m key = !((mget m key).getD Chg0).gone := rfl
    generalize (mget m key).getD Chg0 = o at *
    obtain ⟨okey, oval, ogone⟩ := o
    obtain ⟨kg, ko, rfl⟩ := hS.own_addr (A := AK) (n := K.length) Mm (Nat.lt_of_le_of_lt (Nat.zero_le k) hlt)
    clear hd
    rcases ogone with _ | _
    · have hob : oldB m key = true := hob
      rw [List.filter_cons_of_pos hob, List.filter_nil] at hnx
      repeat' (first | (show WL _ _ _ _ _ _ _; first | refine WL.pure rfl rfl rfl rfl ?_ | refine WL.nil ?_ | refine WL.load hS rfl rfl (LdOk.box Mm rfl) rfl rfl rfl ?_ | refine WL.add rfl rfl rfl (by omega) rfl rfl rfl ?_ | (refine WL.load hS rfl rfl (LdOk.ownAt Mm rfl ⟨_, rfl⟩ hx rfl) rfl rfl rfl ?_) | (refine WL.mget hS rfl rfl rfl rfl (.mk' Mm) hlk rfl rfl rfl ?_) | (refine WL.app hS rfl rfl rfl rfl (RdOk.box Mm) rfl rfl (fun A cap => Rp) (by omega) rfl rfl rfl ?_; intro A3 cap3 w hS) | refine WL.index rfl rfl rfl rfl (by first | with_reducible assumption | omega) rfl rfl rfl rfl ?_ | (refine WL.slit hS rfl rfl rfl rfl rfl ?_; intro w b hS)) | (show WC _ _ _ _ _ _; first | refine WC.seq ?_ | refine WC.region ?_ | refine WC.block ?_ | refine WC.skip ?_ | refine WC.condT rfl (decide_eq_true (by first | with_reducible assumption | omega)) ?_ | refine WC.condT rfl (by first | (simp; done) | (simp; omega)) ?_) | refine seqQ_n ?_ | refine blkQ_n ?_)
      exact rndQ_n (k + 1, d ++ [key], A3, cap3) ⟨by omega, hnx.symm, by
        have hS := hS.drop
        rw [List.length_append, ← strs_snoc]
        exact hS⟩ (by show K.length - (k + 1) < K.length - k; omega) ⟨by rw [List.length_append]; rfl, vint (by omega), trivial⟩ ⟨rfl, rfl, rfl, rfl, trivial⟩
    · have hob : ¬ oldB m key = true := by rw [hob]; simp
      rw [List.filter_cons_of_neg hob, List.filter_nil, List.append_nil] at hnx
      repeat' (first | (show WL _ _ _ _ _ _ _; first | refine WL.pure rfl rfl rfl rfl ?_ | refine WL.nil ?_ | refine WL.load hS rfl rfl (LdOk.box Mm rfl) rfl rfl rfl ?_ | refine WL.add rfl rfl rfl (by omega) rfl rfl rfl ?_ | (refine WL.load hS rfl rfl (LdOk.ownAt Mm rfl ⟨_, rfl⟩ hx rfl) rfl rfl rfl ?_) | (refine WL.mget hS rfl rfl rfl rfl (.mk' Mm) hlk rfl rfl rfl ?_) | refine WL.index rfl rfl rfl rfl (by first | with_reducible assumption | omega) rfl rfl rfl rfl ?_) | (show WC _ _ _ _ _ _; first | refine WC.seq ?_ | refine WC.region ?_ | refine WC.block ?_ | refine WC.skip ?_ | refine WC.condT rfl (decide_eq_true (by first | with_reducible assumption | omega)) ?_ | refine WC.condF rfl (by first | (simp; done) | (simp; omega)) ?_) | refine seqQ_n ?_ | refine blkQ_n ?_)
      exact rndQ_n (k + 1, d, A, cap) ⟨by omega, hnx.symm, hS⟩ (by show K.length - (k + 1) < K.length - k; omega) ⟨rfl, vint (by omega), trivial⟩ ⟨rfl, rfl, rfl, rfl, trivial⟩
  · have hke : k = K.length := by omega
    subst hke
    rw [List.take_length] at hd
    rw [← hd]
    repeat' (first | (show WL _ _ _ _ _ _ _; first | refine WL.pure rfl rfl rfl rfl ?_ | refine WL.nil ?_ | refine WL.load hS rfl rfl (LdOk.box Mm rfl) rfl rfl rfl ?_ | (refine WL.mrange hS rfl rfl rfl (fun r => Rp) rfl rfl rfl ?_; intro w r hS)) | (show WC _ _ _ _ _ _; first | refine WC.seq ?_ | refine WC.region ?_ | refine WC.block ?_ | refine WC.exit ?_ | refine WC.condF rfl (decide_eq_false (by first | with_reducible assumption | omega)) ?_) | refine seqQ_n ?_ | refine seqQ_x ?_ | refine blkQ_hit rfl ?_ | refine rndQ_x ?_)
    replace hS := hS.droplast2 (D := [.own (.slice A d.length cap) 9 1 d.length (strs d), rngC mb r (mmap encChg m) (mmap encChg m) none, .box B 122 [.pointer (some ⟨Tp, 0, none⟩), .slice A0 m.length cap0, .map (some mb)], .own (.slice A0 m.length cap0) 9 1 m.length (strs (m.map Prod.fst)), tabC Tp q T fp]) Pu
    refine WC.loop (σ := List (List UInt8) × Bch × Option (List UInt8 × Value) × Option Addr × Nat) [0, 1, 44] (fun (e, left, cur, A, cap) => [(5, .slice A e.length cap)])
      (fun (e, left, cur, A, cap) w => (e ++ (left.filter (newB T.rows p)).map Prod.fst).Perm (d ++ (m.filter (newB T.rows p)).map Prod.fst) ∧ e.length + left.length ≤ d.length + m.length ∧ St w0 (fps [bchC B (some ⟨Tp, 0, none⟩) m fb, tabC Tp q T fp]) w [.own (.slice A e.length cap) 9 1 e.length (strs e), rngC mb r (mmap encChg m) (mmap encChg left) cur, .box B 122 [.pointer (some ⟨Tp, 0, none⟩), .slice A0 m.length cap0, .map (some mb)], .own (.slice A0 m.length cap0) 9 1 m.length (strs (m.map Prod.fst)), tabC Tp q T fp] (ZL w0 [bchC B (some ⟨Tp, 0, none⟩) m fb, tabC Tp q T fp]))
      (fun (e, left, cur, A, cap) => left.length) (d, m, none, A, cap) ⟨.refl _, Nat.le_refl _, hS⟩ ⟨rfl, trivial⟩ ?_
    clear hS
    rintro ⟨e, left, cur, A2, cap2⟩ g2 w ⟨hpm, hel, hS⟩
    show WC _ _ _ (lf _ [(5, .slice A2 e.length cap2)] _ _) _ _
    clear hcap
    have hcap := (hS.own_len (List.Mem.head _)).2.2
    rcases left with _ | ⟨x, left⟩
    · rw [List.filter_nil, List.map_nil, List.append_nil] at hpm
      have hsl := sort_perm hpm
      have hsn : e.length = (sortL (d ++ (m.filter (newB T.rows p)).map Prod.fst)).length := by rw [← hsl, sortL_len]
      simp only [List.length_nil, Nat.add_zero] at hel
      repeat' (first | (show WL _ _ _ _ _ _ _; first | refine WL.pure rfl rfl rfl rfl ?_ | refine WL.nil ?_ | (refine WL.mnext hS rfl rfl (fun l' p => Rp) rfl rfl rfl (fun _ => ?_) (fun l1 k v l2 h => absurd h (by simp [mmap]))) | (refine WL.callL (D := [.own (.slice A2 e.length cap2) 9 1 e.length (strs e)]) hS Pu rfl rfl (fun hI => sort_c hI.head hI.headB (by omega)) rfl rfl rfl ?_; rintro v w ⟨rfl, hm⟩ hS; replace hS := hS _ (.of1 hm); clear hm)) | (show WC _ _ _ _ _ _; first | refine WC.seq ?_ | refine WC.region ?_ | refine WC.exit ?_ | refine WC.ret ?_ | refine WC.condF rfl (by with_reducible rfl) ?_) | refine seqQ_n ?_ | refine seqQ_x ?_ | refine blkQ_hit rfl ?_ | refine rndQ_x ?_)
      have hS := hS.rngEnd (H' := [.own (.slice A2 e.length cap2) 9 1 e.length (strs (sortL e)), mapC mb (mmap encChg m), .box B 122 [.pointer (some ⟨Tp, 0, none⟩), .slice A0 m.length cap0, .map (some mb)], .own (.slice A0 m.length cap0) 9 1 m.length (strs (m.map Prod.fst)), tabC Tp q T fp]) Rp
      have hS := St.objClose (φ := bchφ B (some ⟨Tp, 0, none⟩) m) (hS.pulls (D := [.box B 122 [.pointer (some ⟨Tp, 0, none⟩), .slice A0 m.length cap0, .map (some mb)], .own (.slice A0 m.length cap0) 9 1 m.length (strs (m.map Prod.fst)), mapC mb (mmap encChg m)]) Pu) ⟨A0, cap0, mb, rfl⟩
      rw [← hfb, hsl, hsn] at hS
      exact fin1r rfl rfl ⟨A2, cap2, by rw [hsn], hS.mutLp Pu⟩
    · repeat' (first | (show WL _ _ _ _ _ _ _; first | refine WL.pure rfl rfl rfl rfl ?_ | refine WL.nil ?_ | refine WL.load hS rfl rfl (LdOk.box Mm rfl) rfl rfl rfl ?_ | (refine WL.mnext hS rfl rfl (fun l' p => Rp) rfl rfl rfl (fun h => absurd h (by simp [mmap])) (fun l1 k v l2 hleft w hS => ?_); obtain ⟨lc1, ⟨okey, oval, ogone⟩, lc2, rfl, rfl, rfl, hlc⟩ := mmap_split hleft; rw [mmap_app] at hS; clear hleft; cases hg1 : (mget T.rows k).isSome <;> cases ogone <;> cases hg3 : begB p k) | (refine WL.mentry hS rfl rfl Mm rfl rfl rfl ?_) | (refine WL.alloc (t := 134) hS rfl rfl rfl rfl rfl rfl ?_; intro w xb hS) | (refine WL.callL (D := [tabC Tp q T fp]) hS Pu rfl rfl (fun hI => tget_c k hI) rfl rfl rfl ?_; rintro v w ⟨rfl, hmu⟩ hS; rw [show (getE T.rows k).2 = _ from hg1]; replace hS := hS _ hmu; clear hmu) | (refine WL.calls hS rfl rfl (hasPrefix_c k p _) rfl rfl rfl ?_; rintro v w rfl hS; rw [show decide (k.take p.length = p) = _ from hg3]) | (refine WL.app hS rfl rfl rfl rfl (RdOk.box Mm) rfl rfl (fun A cap => Rp) (by simp at hel; omega) rfl rfl rfl ?_; intro A3 cap3 w hS) | (refine WL.store hS rfl rfl rfl Sb rfl rfl rfl ?_; intro w hS) | refine WL.skip rfl rfl rfl ?_ | (refine WL.slit hS rfl rfl rfl rfl rfl ?_; intro w b hS)) | (show WC _ _ _ _ _ _; first | refine WC.seq ?_ | refine WC.region ?_ | refine WC.block ?_ | refine WC.skip ?_ | refine WC.condT rfl (by with_reducible rfl) ?_ | refine WC.condF rfl (by with_reducible rfl) ?_) | refine seqQ_n ?_ | refine blkQ_n ?_)
      all_goals
        rw [hlc] at hpm hel
        have hpm2 := ((List.Perm.append_left e (((perm_mid lc1 lc2 _).filter (newB T.rows p)).map Prod.fst)).symm).trans hpm
        first
          | (rw [List.filter_cons_of_pos (by simp [newB, hg1, hg3])] at hpm2
             exact rndQ_n (e ++ [k], lc1 ++ lc2, some (k, _), A3, cap3) ⟨by rw [List.append_assoc]; exact hpm2, by simp at hel ⊢; omega, by
               rw [List.length_append, ← strs_snoc]
               exact hS.droplast2 Pu⟩ (by show (lc1 ++ lc2).length < (x :: left).length; rw [hlc]; simp) ⟨by rw [List.length_append]; rfl, trivial⟩ ⟨rfl, rfl, rfl, trivial⟩)
          | (rw [List.filter_cons_of_neg (by simp [newB, hg1, hg3])] at hpm2
             exact rndQ_n (e, lc1 ++ lc2, some (k, _), A2, cap2) ⟨hpm2, by simp at hel ⊢; omega, hS.droplast2 Pu⟩ (by show (lc1 ++ lc2).length < (x :: left).length; rw [hlc]; simp) ⟨rfl, trivial⟩ ⟨rfl, rfl, rfl, trivial⟩)
end Go.Proofs.YtobfdeiimnnanaaGreatDoor

/- What is proved: digits and what they are worth. Conditions: none. -/
namespace Go.J
open Go Go.Lib
def digB (c : UInt8) : Bool := decide (48 ≤ c.toNat ∧ c.toNat ≤ 57)
def valE (s : List UInt8) : Nat := s.foldl (fun n c => 10 * n + (c.toNat - 48)) 0
theorem decDigits_small {n : Nat} (h : n < 10) : decDigits n = [UInt8.ofNat (48 + n)] := by rw [decDigits, dif_pos h]
theorem decDigits_big {n : Nat} (h : ¬ n < 10) : decDigits n = decDigits (n / 10) ++ [UInt8.ofNat (48 + n % 10)] := by rw [decDigits, dif_neg h]
theorem valE_snoc (s : List UInt8) (c : UInt8) : valE (s ++ [c]) = 10 * valE s + (c.toNat - 48) := by unfold valE; rw [List.foldl_append]; rfl
theorem ofNat_nat {n : Nat} (h : n < 256) : (UInt8.ofNat n).toNat = n := by simp; omega
theorem decDigits_ne (n : Nat) : decDigits n ≠ [] := by
  by_cases h : n < 10
  · rw [decDigits_small h]; simp
  · rw [decDigits_big h]; simp
theorem decDigits_spec : ∀ (m n : Nat), n ≤ m → valE (decDigits n) = n ∧ (decDigits n).all digB = true ∧ (0 < n → (decDigits n).head? ≠ some 48) ∧ ∀ k, n < 10 ^ (k + 1) → (decDigits n).length ≤ k + 1
  | m, n, hm => by
    by_cases h : n < 10
    · rw [decDigits_small h]
      have hc : (UInt8.ofNat (48 + n)).toNat = 48 + n := ofNat_nat (by omega)
      refine ⟨by simp only [valE, List.foldl_cons, List.foldl_nil, hc]; omega, by simp only [List.all_cons, List.all_nil, Bool.and_true, digB, hc, decide_eq_true_eq]; omega, fun h0 => ?_, fun k _ => by simp⟩
      simp only [List.head?_cons, ne_eq, Option.some.injEq]
      intro e
      have := congrArg UInt8.toNat e
      rw [hc] at this
      have h48 : (48 : UInt8).toNat = 48 := rfl
      omega
    · cases m with
      | zero => omega
      | succ m =>
        obtain ⟨h1, h2, h3, h4⟩ := decDigits_spec m (n / 10) (by omega)
        have hc : (UInt8.ofNat (48 + n % 10)).toNat = 48 + n % 10 := ofNat_nat (by omega)
        rw [decDigits_big h]
        refine ⟨by rw [valE_snoc, h1, hc]; omega, by rw [List.all_append, h2, Bool.true_and]; simp only [List.all_cons, List.all_nil, Bool.and_true, digB, hc, decide_eq_true_eq]; omega, fun _ => ?_, fun k hk => ?_⟩
        · cases hd : decDigits (n / 10) with
          | nil => exact absurd hd (decDigits_ne _)
          | cons a l =>
            have := h3 (by omega)
            rw [hd] at this
            simpa using this
        · cases k with
          | zero => omega
          | succ k =>
            have := h4 k (by rw [Nat.pow_succ] at hk; omega)
            rw [List.length_append, List.length_singleton]; omega
theorem itoa_nat (n : Nat) : Lib.itoa (n : Int) = Lib.decDigits n := by
  unfold Lib.itoa
  rw [if_neg (by omega)]
  rfl
theorem dec_inj {a b : Nat} (h : decDigits a = decDigits b) : a = b := by
  have h1 := (decDigits_spec a a (Nat.le_refl _)).1
  have h2 := (decDigits_spec b b (Nat.le_refl _)).1
  rw [h] at h1; omega
theorem dec_dig (n : Nat) : (decDigits n).all digB = true := (decDigits_spec n n (Nat.le_refl _)).2.1
theorem dec_val (n : Nat) : valE (decDigits n) = n := (decDigits_spec n n (Nat.le_refl _)).1
theorem dec_len {n k : Nat} (h : n < 10 ^ (k + 1)) : (decDigits n).length ≤ k + 1 := (decDigits_spec n n (Nat.le_refl _)).2.2.2 k h
end Go.J

/- What is proved: strconv's Itoa and Atoi at small numbers. Conditions: the library's table of powers laid. -/
namespace Go.J
open Go Go.RowKit
end Go.J
namespace Go.Proofs.YtobfdeiimnnanaaGreatDoor
open Go Go.J Go.RowKit
theorem decFrom_val : ∀ (s : List UInt8) (a : Nat), s.all digB = true → Lib.decFrom a s = some (s.foldl (fun n c => 10 * n + (c.toNat - 48)) a)
  | [], a, _ => rfl
  | c :: r, a, h => by
    rw [List.all_cons, Bool.and_eq_true] at h
    have hc : 48 ≤ c.toNat ∧ c.toNat ≤ 57 := by simpa [digB] using h.1
    rw [Lib.decFrom, Lib.digitVal, if_pos hc]
    show Lib.decFrom _ r = _
    rw [decFrom_val r _ h.2, List.foldl_cons, Nat.mul_comm a 10]
theorem atoi_val (s : List UInt8) (hne : s ≠ []) (hd : s.all digB = true) : Lib.atoi s = some (valE s : Int) := by
  match s, hne with
  | c :: r, _ =>
    have hc := hd
    rw [List.all_cons, Bool.and_eq_true] at hc
    have hc : 48 ≤ c.toNat ∧ c.toNat ≤ 57 := by simpa [digB] using hc.1
    have h45 : ¬ c = 45 := fun e => by rw [e] at hc; exact absurd hc.1 (by decide)
    have h43 : ¬ c = 43 := fun e => by rw [e] at hc; exact absurd hc.1 (by decide)
    have h2 : Lib.decNat (c :: r) = some (valE (c :: r)) := by unfold Lib.decNat; rw [decFrom_val _ 0 hd]; rfl
    simp [Lib.atoi, h45, h43, h2]
theorem atoi_c (s : List UInt8) (hne : s ≠ []) (hl : s.length ≤ 13) (hd : s.all digB = true) (w0 : World) : Cal Tryz.prog 117 [str s] w0 (fun v w' => Upd [] w0 w' ∧ v = .tuple #[.int .i64 (valE s : Int), .nilIface]) :=
  ⟨by kernel_rfl, (Any.strconv_Atoi Tryz.atoiL ⟨⟨s⟩⟩ (valE s : Int) (show s.length ≤ 18 by omega) (atoi_val s hne hd) w0).mono fun e w' ⟨h1, t, h2⟩ => ⟨_, h1, by rw [h2]; exact .of_below (Lib.bytesWorld_below _ _ _), rfl⟩⟩
abbrev powT (w : World) : Prop := Lib.TabIs Tryz.prog w "internal/strconv.uint64pow10" .u64 Lib.pow10Tab
theorem itoa_c (n : Int) (h0 : -9223372036854775808 ≤ n) (h1 : n ≤ 9223372036854775807) (w0 : World) (ht : powT w0) : Cal Tryz.prog 118 [.int .i64 n] w0 (fun v w' => Upd [] w0 w' ∧ v = str (Lib.itoa n)) :=
  ⟨by kernel_rfl, (Any.strconv_Itoa Tryz.itoaL n h0 h1 w0 ht).mono fun e w' ⟨h1, k, os, h2⟩ => ⟨_, h1, by rw [h2]; exact .of_below (Lib.below_grow _ _ (Nat.le_refl _) _ _), rfl⟩⟩
structure PowI (w : World) (F : List Nat) : Prop where
  tab : powT w
  out : ∀ g, Tryz.prog.globalNamed "internal/strconv.uint64pow10" = some g → g < w.heap.size ∧ g ∉ F
theorem PowI.of {w : World} (h : powT w) : PowI w [] := by
  refine ⟨h, fun g hg => ⟨?_, by simp⟩⟩
  unfold powT Lib.TabIs World.var? at h
  simp only [hg, Option.bind_some] at h
  rcases Nat.lt_or_ge g w.heap.size with h' | h'
  · exact h'
  · simp [Array.getElem?_eq_none h'] at h
section
variable {w0 w : World} {M : List Nat} {H H' D : List Chunk} {Z : List Snap}
theorem PowI.at (hp : PowI w0 M) (hS : St w0 M w H Z) : powT w := by
  have h := hp.tab
  unfold powT Lib.TabIs World.var? at h ⊢
  cases hg : Tryz.prog.globalNamed "internal/strconv.uint64pow10" with
  | none => simp [hg] at h
  | some g =>
    obtain ⟨h1, h2⟩ := hp.out g hg
    simp only [hg, Option.bind_some] at h ⊢
    rw [hS.upd.block g h1 h2]
    exact h
theorem PowI.pull (hp : PowI w0 M) (hS : St w0 M w H Z) (hP : Pulls D H H') : PowI w (fps D) := by
  refine ⟨hp.at hS, fun g hg => ?_⟩
  obtain ⟨h1, h2⟩ := hp.out g hg
  refine ⟨Nat.lt_of_lt_of_le h1 hS.upd.size, fun hm => ?_⟩
  obtain ⟨c, hc, hb⟩ := mem_fps.1 hm
  have h3 := (hS.pulls hP).inb c (List.mem_append_left _ hc) g hb
  rcases h3.2 with h | h
  · omega
  · exact h2 h
end
end Go.Proofs.YtobfdeiimnnanaaGreatDoor

/- What is proved: contents by key, in plain lists. Conditions: as each names them. -/
namespace Go.Proofs.YtobfdeiimnnanaaGreatDoor
open Go Go.J Go.RowKit
open Go.Lib (decDigits)
def hexD : List UInt8 := [48, 49, 50, 51, 52, 53, 54, 55, 56, 57, 97, 98, 99, 100, 101, 102]
def hexC (n : Nat) : UInt8 := hexD.getD n 0
theorem hexC_inj' : ∀ a : Fin 16, ∀ b : Fin 16, hexC a.1 = hexC b.1 → a = b := by decide
theorem hexC_inj (a b : Nat) (ha : a < 16) (hb : b < 16) (h : hexC a = hexC b) : a = b := congrArg Fin.val (hexC_inj' ⟨a, ha⟩ ⟨b, hb⟩ h)
def lowE (s : List UInt8) : Nat := sumE s % 256
theorem lowE_lt (s : List UInt8) : lowE s < 256 := Nat.mod_lt _ (by decide)
def preB (low : Nat) : List UInt8 := [98, 47, hexC (low / 16), hexC (low % 16), 47]
def keyB (low n : Nat) : List UInt8 := preB low ++ decDigits n
theorem preB_inj {a b : Nat} (ha : a < 256) (hb : b < 256) (h : preB a = preB b) : a = b := by
  simp only [preB, List.cons.injEq, true_and, and_true] at h
  have h1 := hexC_inj _ _ (by omega) (by omega) h.1
  have h2 := hexC_inj _ _ (by omega) (by omega) h.2
  omega
theorem keyB_inj {a b n m : Nat} (ha : a < 256) (hb : b < 256) (h : keyB a n = keyB b m) : a = b ∧ n = m := by
  obtain ⟨h1, h2⟩ := List.append_inj h rfl
  exact ⟨preB_inj ha hb h1, dec_inj h2⟩
theorem keyB_beg (low n : Nat) : begB (preB low) (keyB low n) = true := by
  unfold begB keyB
  rw [List.take_left]
  exact decide_eq_true rfl
theorem keyB_b (low n : Nat) : begB [98, 47] (keyB low n) = true := rfl
theorem keyB_other {a b n : Nat} (ha : a < 256) (hb : b < 256) (h : begB (preB a) (keyB b n) = true) : a = b := by
  unfold begB keyB at h
  have h := of_decide_eq_true h
  rw [show (preB a).length = (preB b).length from rfl, List.take_left] at h
  exact (preB_inj hb ha h).symm
theorem preB_b {low : Nat} {k : List UInt8} (h : begB (preB low) k = true) : begB [98, 47] k = true := by
  unfold begB at h ⊢
  have h := of_decide_eq_true h
  refine decide_eq_true ?_
  have := congrArg (List.take 2) h
  rw [List.take_take] at this
  exact this
def valB (refs : Nat) (data : List UInt8) : List UInt8 := putN refs ++ data
def splitB (s : List UInt8) : Nat × List UInt8 := if (uintE s).2.2 = 0 then ((uintE s).1, s.drop (uintE s).2.1) else (0, s)
structure One where
  low : Nat
  n : Nat
  refs : Nat
  data : List UInt8
abbrev One.key (x : One) : List UInt8 := keyB x.low x.n
def freeN (ns : List Nat) : Nat := ((List.range (ns.length + 1)).find? fun i => decide (i ∉ ns)).getD 0
def numsB (l : List One) (low : Nat) : List Nat := (l.filter fun x => decide (x.low = low)).map One.n
def updB (l : List One) (k : List UInt8) (r : Nat) : List One := l.map fun y => if y.key = k then { y with refs := r } else y
def putB (l : List One) (data : List UInt8) : List One × List UInt8 :=
  match l.find? fun x => decide (x.data = data) with
  | some x => (updB l x.key (x.refs + 1), x.key)
  | none => (l ++ [⟨lowE data, freeN (numsB l (lowE data)), 1, data⟩], keyB (lowE data) (freeN (numsB l (lowE data))))
def findB (l : List One) (k : List UInt8) : Option One := l.find? fun x => decide (x.key = k)
def relB (l : List One) (k : List UInt8) : List One := match findB l k with
  | some x => if 1 < x.refs then updB l k (x.refs - 1) else l.filter fun y => decide (y.key ≠ k)
  | none => l
theorem mem_sortL {l : List (List UInt8)} {k : List UInt8} : k ∈ sortL l ↔ k ∈ l := (List.mergeSort_perm _ _).mem_iff
theorem nodup_sortL {l : List (List UInt8)} : (sortL l).Nodup ↔ l.Nodup := (List.mergeSort_perm _ _).nodup_iff
theorem mem_of_mget' {β : Type} {m : List (List UInt8 × β)} {k : List UInt8} {v : β} (h : mget m k = some v) : (k, v) ∈ m := by
  induction m with
  | nil => cases h
  | cons p r ih =>
    obtain ⟨a, u⟩ := p
    simp only [mget] at h
    split at h
    · rename_i e; subst e; cases h; exact List.mem_cons_self ..
    · exact List.mem_cons_of_mem _ (ih h)
theorem mget_of_mem' {β : Type} {m : List (List UInt8 × β)} {k : List UInt8} {v : β} (hn : (m.map Prod.fst).Nodup) (h : (k, v) ∈ m) : mget m k = some v := by
  induction m with
  | nil => cases h
  | cons p r ih =>
    obtain ⟨a, u⟩ := p
    simp only [List.map_cons, List.nodup_cons] at hn
    simp only [mget]
    rcases List.mem_cons.1 h with e | h
    · cases e; rw [if_pos rfl]
    · rw [if_neg (fun e => hn.1 (by rw [← e]; exact List.mem_map.2 ⟨_, h, rfl⟩)), ih hn.2 h]
theorem mem_bkeys {rows : Rws} {m : Bch} (hm : (m.map Prod.fst).Nodup) (p k : List UInt8) : k ∈ bkeysP rows m p ↔ (bgetE rows m k).2 = true ∧ begB p k = true := by
  unfold bkeysP keysP
  rw [mem_sortL, List.mem_append, List.mem_filter, mem_sortL, List.mem_filter, List.mem_map (f := Prod.fst) (l := m.filter (newB rows p))]
  unfold bgetE oldB getE
  constructor
  · rintro (⟨⟨h1, h2⟩, h3⟩ | ⟨⟨a, o⟩, h1, rfl⟩)
    · refine ⟨?_, h2⟩
      cases hg : mget m k with
      | some o => rw [hg] at h3; exact h3
      | none =>
        cases hr : mget rows k with
        | some v => rfl
        | none => exact absurd h1 (mget_none.1 hr)
    · obtain ⟨h1, h2⟩ := List.mem_filter.1 h1
      unfold newB at h2
      simp only [Bool.and_eq_true] at h2
      rw [mget_of_mem' hm h1]
      exact ⟨h2.1.2, h2.2⟩
  · rintro ⟨h1, h2⟩
    cases hg : mget m k with
    | some o =>
      rw [hg] at h1
      have h1 : (!o.gone) = true := h1
      by_cases hk : k ∈ rows.map Prod.fst
      · exact .inl ⟨⟨hk, h2⟩, h1⟩
      · refine .inr ⟨(k, o), List.mem_filter.2 ⟨mem_of_mget' hg, ?_⟩, rfl⟩
        unfold newB
        dsimp only
        rw [mget_none.2 hk, h1, h2]
        rfl
    | none =>
      rw [hg] at h1
      refine .inl ⟨⟨?_, h2⟩, rfl⟩
      apply Classical.byContradiction
      intro hk
      rw [mget_none.2 hk] at h1
      cases h1
theorem nodup_bkeys {rows : Rws} {m : Bch} (hr : (rows.map Prod.fst).Nodup) (hm : (m.map Prod.fst).Nodup) (p : List UInt8) : (bkeysP rows m p).Nodup := by
  unfold bkeysP keysP
  rw [nodup_sortL, List.nodup_append]
  refine ⟨(nodup_sortL.2 (hr.sublist List.filter_sublist)).sublist List.filter_sublist, hm.sublist (List.filter_sublist.map _), fun a ha b hb e => ?_⟩
  subst e
  have h1 := (List.mem_filter.1 (mem_sortL.1 (List.mem_filter.1 ha).1)).1
  obtain ⟨⟨x, o⟩, h2, rfl⟩ := List.mem_map.1 hb
  have h3 := (List.mem_filter.1 h2).2
  unfold newB at h3
  simp only [Bool.and_eq_true] at h3
  have h4 := h3.1.1
  cases hg : mget rows x with
  | none => exact mget_none.1 hg h1
  | some v => rw [hg] at h4; cases h4
structure BlobIs (rows : Rws) (m : Bch) (l : List One) (K : Nat) : Prop where
  rnd : (rows.map Prod.fst).Nodup
  mnd : (m.map Prod.fst).Nodup
  has : ∀ x ∈ l, bgetE rows m x.key = (valB x.refs x.data, true)
  only : ∀ k, (bgetE rows m k).2 = true → begB [98, 47] k = true → ∃ x ∈ l, x.key = k
  low : ∀ x ∈ l, x.low = lowE x.data
  refs : ∀ x ∈ l, 1 ≤ x.refs ∧ x.refs ≤ K
  nums : ∀ x ∈ l, x.n < K
  len : l.length ≤ K
  size : ∀ x ∈ l, x.data.length ≤ 549755813888
  knd : (l.map One.key).Nodup
  dnd : (l.map One.data).Nodup
section
variable {rows : Rws} {m : Bch} {l : List One} {K : Nat}
theorem bgetE_noted (o : Chg) (k : List UInt8) : bgetE rows (noteE m o) k = if k = o.key then (o.val, !o.gone) else bgetE rows m k := by
  unfold bgetE noteE
  rw [mget_set]
  by_cases h : k = o.key
  · rw [if_pos h, if_pos h]
  · rw [if_neg h, if_neg h]
theorem note_nd (h : (m.map Prod.fst).Nodup) (o : Chg) : ((noteE m o).map Prod.fst).Nodup := mset_nodup h _ _
theorem note_len (m : Bch) (o : Chg) : (noteE m o).length ≤ m.length + 1 := (szB_note m o).2
theorem nd_key {l : List One} (h : (l.map One.key).Nodup) {x y : One} (hx : x ∈ l) (hy : y ∈ l) (e : x.key = y.key) : x = y := by
  induction l with
  | nil => cases hx
  | cons a l ih =>
    simp only [List.map_cons, List.nodup_cons] at h
    rcases List.mem_cons.1 hx with hx1 | hx1 <;> rcases List.mem_cons.1 hy with hy1 | hy1
    · rw [hx1, hy1]
    · exact absurd (List.mem_map.2 ⟨y, hy1, by rw [← e, hx1]⟩ : _ ∈ l.map _) h.1
    · exact absurd (List.mem_map.2 ⟨x, hx1, by rw [e, hy1]⟩ : _ ∈ l.map _) h.1
    · exact ih h.2 hx1 hy1
theorem nd_data {l : List One} (h : (l.map One.data).Nodup) {x y : One} (hx : x ∈ l) (hy : y ∈ l) (e : x.data = y.data) : x = y := by
  induction l with
  | nil => cases hx
  | cons a l ih =>
    simp only [List.map_cons, List.nodup_cons] at h
    rcases List.mem_cons.1 hx with hx1 | hx1 <;> rcases List.mem_cons.1 hy with hy1 | hy1
    · rw [hx1, hy1]
    · exact absurd (List.mem_map.2 ⟨y, hy1, by rw [← e, hx1]⟩ : _ ∈ l.map _) h.1
    · exact absurd (List.mem_map.2 ⟨x, hx1, by rw [e, hy1]⟩ : _ ∈ l.map _) h.1
    · exact ih h.2 hx1 hy1
theorem upd_key (l : List One) (k : List UInt8) (r : Nat) : (updB l k r).map One.key = l.map One.key := by
  unfold updB
  rw [List.map_map]
  exact List.map_congr_left fun y _ => by show One.key (if _ then _ else _) = _; split <;> rfl
theorem upd_data (l : List One) (k : List UInt8) (r : Nat) : (updB l k r).map One.data = l.map One.data := by
  unfold updB
  rw [List.map_map]
  exact List.map_congr_left fun y _ => by show One.data (if _ then _ else _) = _; split <;> rfl
theorem mem_upd {l : List One} {k : List UInt8} {r : Nat} {y : One} (h : y ∈ updB l k r) : ∃ z ∈ l, y.key = z.key ∧ y.low = z.low ∧ y.n = z.n ∧ y.data = z.data ∧ y.refs = if z.key = k then r else z.refs := by
  obtain ⟨z, hz, rfl⟩ := List.mem_map.1 h
  refine ⟨z, hz, ?_⟩
  split <;> exact ⟨rfl, rfl, rfl, rfl, rfl⟩
theorem BlobIs.upd (h : BlobIs rows m l K) {x : One} (hx : x ∈ l) {r K' : Nat} (h1 : 1 ≤ r) (h2 : r ≤ K') (h3 : K ≤ K') : BlobIs rows (noteE m ⟨x.key, valB r x.data, false⟩) (updB l x.key r) K' := by
  refine ⟨h.rnd, note_nd h.mnd _, fun y hy => ?_, fun k hk hb => ?_, fun y hy => ?_, fun y hy => ?_, fun y hy => ?_, ?_, fun y hy => ?_, by rw [upd_key]; exact h.knd, by rw [upd_data]; exact h.dnd⟩
  · obtain ⟨z, hz, e1, e2, e3, e4, e5⟩ := mem_upd hy
    rw [bgetE_noted, e1, e4, e5]
    dsimp only
    by_cases hk : z.key = x.key
    · rw [if_pos hk, if_pos hk, nd_key h.knd hz hx hk]; rfl
    · rw [if_neg hk, if_neg hk]; exact h.has z hz
  · rw [bgetE_noted] at hk
    have : ∃ z ∈ l, z.key = k := by
      split at hk
      · rename_i e; exact ⟨x, hx, e.symm⟩
      · exact h.only k hk hb
    obtain ⟨z, hz, e⟩ := this
    refine ⟨if z.key = x.key then { z with refs := r } else z, List.mem_map.2 ⟨z, hz, rfl⟩, ?_⟩
    rw [← e]; split <;> rfl
  · obtain ⟨z, hz, e1, e2, e3, e4, e5⟩ := mem_upd hy
    rw [e2, e4]; exact h.low z hz
  · obtain ⟨z, hz, e1, e2, e3, e4, e5⟩ := mem_upd hy
    have := h.refs z hz
    rw [e5]; split <;> omega
  · obtain ⟨z, hz, e1, e2, e3, e4, e5⟩ := mem_upd hy
    have := h.nums z hz; omega
  · unfold updB; rw [List.length_map]; have := h.len; omega
  · obtain ⟨z, hz, e1, e2, e3, e4, e5⟩ := mem_upd hy
    rw [e4]; exact h.size z hz
theorem BlobIs.del (h : BlobIs rows m l K) {k : List UInt8} : BlobIs rows (noteE m ⟨k, [], true⟩) (l.filter fun y => decide (y.key ≠ k)) K := by
  have hs : (l.filter fun y => decide (y.key ≠ k)).Sublist l := List.filter_sublist
  refine ⟨h.rnd, note_nd h.mnd _, fun y hy => ?_, fun k' hk hb => ?_, fun y hy => h.low y (hs.subset hy), fun y hy => h.refs y (hs.subset hy), fun y hy => h.nums y (hs.subset hy), ?_, fun y hy => h.size y (hs.subset hy), h.knd.sublist (hs.map _), h.dnd.sublist (hs.map _)⟩
  · have hne := of_decide_eq_true (List.mem_filter.1 hy).2
    rw [bgetE_noted, if_neg hne]
    exact h.has y (hs.subset hy)
  · rw [bgetE_noted] at hk
    split at hk
    · cases hk
    · rename_i hne
      obtain ⟨z, hz, e⟩ := h.only k' hk hb
      exact ⟨z, List.mem_filter.2 ⟨hz, decide_eq_true (by rw [e]; exact hne)⟩, e⟩
  · have := hs.length_le; have := h.len; omega
theorem BlobIs.keys (h : BlobIs rows m l K) {low : Nat} (hl : low < 256) : ∃ ns : List Nat, bkeysP rows m (preB low) = ns.map (keyB low) ∧ ns.Nodup ∧ ∀ n, n ∈ ns ↔ ∃ x ∈ l, x.low = low ∧ x.n = n := by
  have h1 : ∀ k ∈ bkeysP rows m (preB low), ∃ x ∈ l, x.low = low ∧ x.key = k := fun k hk => by
    obtain ⟨a, b⟩ := (mem_bkeys h.mnd _ _).1 hk
    obtain ⟨x, hx, rfl⟩ := h.only k a (preB_b b)
    have hlt : x.low < 256 := by rw [h.low x hx]; exact lowE_lt _
    exact ⟨x, hx, (keyB_other hl hlt b).symm, rfl⟩
  have h2 : bkeysP rows m (preB low) = (bkeysP rows m (preB low)).map fun k => keyB low (valE (k.drop 5)) := by
    conv => lhs; rw [← List.map_id (bkeysP rows m (preB low))]
    refine List.map_congr_left fun k hk => ?_
    obtain ⟨x, hx, e1, e2⟩ := h1 k hk
    subst e2
    rw [← e1]
    show keyB x.low x.n = keyB x.low (valE ((preB x.low ++ decDigits x.n).drop 5))
    rw [show (preB x.low ++ decDigits x.n).drop 5 = decDigits x.n from rfl, dec_val]
  refine ⟨(bkeysP rows m (preB low)).map fun k => valE (k.drop 5), ?_, ?_, fun n => ?_⟩
  · rw [List.map_map]; exact h2
  · have h3 := nodup_bkeys h.rnd h.mnd (preB low)
    rw [h2] at h3
    have h4 : ((bkeysP rows m (preB low)).map fun k => keyB low (valE (k.drop 5))) = ((bkeysP rows m (preB low)).map fun k => valE (k.drop 5)).map (keyB low) := by rw [List.map_map]; rfl
    rw [h4] at h3
    exact List.Pairwise.of_map (S := fun a b : List UInt8 => a ≠ b) (keyB low) (fun a b hab e => hab (by rw [e])) h3
  · rw [List.mem_map]
    constructor
    · rintro ⟨k, hk, rfl⟩
      obtain ⟨x, hx, e1, rfl⟩ := h1 k hk
      refine ⟨x, hx, e1, ?_⟩
      show _ = valE ((preB x.low ++ decDigits x.n).drop 5)
      rw [show (preB x.low ++ decDigits x.n).drop 5 = decDigits x.n from rfl, dec_val]
    · rintro ⟨x, hx, rfl, rfl⟩
      refine ⟨x.key, (mem_bkeys h.mnd _ _).2 ⟨by rw [h.has x hx], keyB_beg _ _⟩, ?_⟩
      show valE ((preB x.low ++ decDigits x.n).drop 5) = _
      rw [show (preB x.low ++ decDigits x.n).drop 5 = decDigits x.n from rfl, dec_val]
theorem BlobIs.ins (h : BlobIs rows m l K) {data : List UInt8} {n : Nat} (hd : ∀ x ∈ l, x.data ≠ data) (hn : ∀ x ∈ l, x.low = lowE data → x.n ≠ n) (hk : n ≤ K) (hs : data.length ≤ 549755813888) :
    BlobIs rows (noteE m ⟨keyB (lowE data) n, valB 1 data, false⟩) (l ++ [⟨lowE data, n, 1, data⟩]) (K + 1) := by
  have hne : ∀ x ∈ l, x.key ≠ keyB (lowE data) n := fun x hx e => by
    obtain ⟨e1, e2⟩ := keyB_inj (by rw [h.low x hx]; exact lowE_lt _) (lowE_lt _) e
    exact hn x hx e1 e2
  have mem : ∀ {y : One}, y ∈ l ++ [⟨lowE data, n, 1, data⟩] → y ∈ l ∨ y = ⟨lowE data, n, 1, data⟩ := fun {y} hy => by simpa using hy
  refine ⟨h.rnd, note_nd h.mnd _, fun y hy => ?_, fun k hk hb => ?_, fun y hy => ?_, fun y hy => ?_, fun y hy => ?_, ?_, fun y hy => ?_, ?_, ?_⟩
  · rw [bgetE_noted]
    rcases mem hy with hy | rfl
    · rw [if_neg (hne y hy)]; exact h.has y hy
    · rw [if_pos rfl]; rfl
  · rw [bgetE_noted] at hk
    split at hk
    · rename_i e; exact ⟨_, List.mem_append_right _ (List.mem_singleton.2 rfl), e.symm⟩
    · obtain ⟨z, hz, e⟩ := h.only k hk hb
      exact ⟨z, List.mem_append_left _ hz, e⟩
  · rcases mem hy with hy | rfl
    · exact h.low y hy
    · rfl
  · rcases mem hy with hy | rfl
    · have := h.refs y hy; omega
    · exact ⟨Nat.le_refl _, Nat.le_add_left ..⟩
  · rcases mem hy with hy | rfl
    · have := h.nums y hy; omega
    · show n < K + 1; omega
  · rw [List.length_append, List.length_singleton]; have := h.len; omega
  · rcases mem hy with hy | rfl
    · exact h.size y hy
    · exact hs
  · rw [List.map_append, List.nodup_append]
    refine ⟨h.knd, by simp, fun a ha b hb => ?_⟩
    obtain ⟨x, hx, rfl⟩ := List.mem_map.1 ha
    rw [List.map_singleton, List.mem_singleton] at hb
    subst hb
    exact hne x hx
  · rw [List.map_append, List.nodup_append]
    refine ⟨h.dnd, by simp, fun a ha b hb => ?_⟩
    obtain ⟨x, hx, rfl⟩ := List.mem_map.1 ha
    rw [List.map_singleton, List.mem_singleton] at hb
    subst hb
    exact hd x hx
theorem mem_nums {l : List One} {low n : Nat} : n ∈ numsB l low ↔ ∃ x ∈ l, x.low = low ∧ x.n = n := by
  unfold numsB
  simp only [List.mem_map, List.mem_filter, decide_eq_true_eq]
  constructor
  · rintro ⟨x, ⟨h1, h2⟩, h3⟩; exact ⟨x, h1, h2, h3⟩
  · rintro ⟨x, h1, h2, h3⟩; exact ⟨x, ⟨h1, h2⟩, h3⟩
theorem nums_len (l : List One) (low : Nat) : (numsB l low).length ≤ l.length := by unfold numsB; rw [List.length_map]; exact List.length_filter_le _ _
end
end Go.Proofs.YtobfdeiimnnanaaGreatDoor

/- What is proved: contents that are put one by one, in plain lists. Conditions: as each names them. -/
namespace Go.Proofs.YtobfdeiimnnanaaGreatDoor
open Go Go.J Go.RowKit
open Go.Lib (decDigits)
section
variable {rows : Rws} {m : Bch} {l : List One} {K : Nat} {data : List UInt8}
theorem putB_old {x : One} (hn : (l.map One.data).Nodup) (hx : x ∈ l) (e : x.data = data) : putB l data = (updB l x.key (x.refs + 1), x.key) := by
  unfold putB
  cases hf : l.find? fun x => decide (x.data = data) with
  | none => exact absurd e (of_decide_eq_false (by simpa using (List.find?_eq_none.1 hf) x hx))
  | some y =>
    have h1 : y.data = data := by have := List.find?_some hf; simpa using this
    have h2 := nd_data hn (List.mem_of_find?_eq_some hf) hx (h1.trans e.symm)
    rw [h2]
theorem putB_new (h : ∀ x ∈ l, x.data ≠ data) : putB l data = (l ++ [⟨lowE data, freeN (numsB l (lowE data)), 1, data⟩], keyB (lowE data) (freeN (numsB l (lowE data)))) := by
  unfold putB
  rw [List.find?_eq_none.2 fun x hx => by simpa using h x hx]
theorem free_le_len (ns : List Nat) : freeN ns ≤ ns.length := by
  unfold freeN
  cases hf : (List.range (ns.length + 1)).find? fun i => decide (i ∉ ns) with
  | none => exact Nat.zero_le _
  | some i =>
    have := List.mem_range.1 (List.mem_of_find?_eq_some hf)
    show i ≤ _
    omega
theorem free_not (ns : List Nat) : freeN ns ∉ ns := by
  unfold freeN
  cases hf : (List.range (ns.length + 1)).find? fun i => decide (i ∉ ns) with
  | none =>
    intro _
    have h1 : (List.range (ns.length + 1)).Subset ns := fun i hi => by
      have := (List.find?_eq_none.1 hf) i hi
      simpa using this
    have h2 := (List.nodup_range (n := ns.length + 1)).length_le_of_subset h1
    rw [List.length_range] at h2
    omega
  | some i => have h := List.find?_some hf; simpa using h
theorem BlobIs.put (h : BlobIs rows m l K) (hs : data.length ≤ 549755813888) : ∃ r, 1 ≤ r ∧ r ≤ K + 1 ∧ BlobIs rows (noteE m ⟨(putB l data).2, valB r data, false⟩) (putB l data).1 (K + 1) := by
  by_cases hx : ∃ x ∈ l, x.data = data
  · obtain ⟨x, hx, rfl⟩ := hx
    have hr := h.refs x hx
    rw [putB_old h.dnd hx rfl]
    exact ⟨x.refs + 1, by omega, by omega, h.upd hx (by omega) (by omega) (by omega)⟩
  · have hx : ∀ x ∈ l, x.data ≠ data := fun x h1 h2 => hx ⟨x, h1, h2⟩
    rw [putB_new hx]
    refine ⟨1, Nat.le_refl _, by omega, h.ins hx (fun x h1 h2 h3 => free_not _ (mem_nums.2 ⟨x, h1, h2, h3⟩)) ?_ hs⟩
    have := free_le_len (numsB l (lowE data)); have := nums_len l (lowE data); have := h.len; omega
structure PutsIs (ts ks : List (List UInt8)) (l : List One) : Prop where
  len : ks.length = ts.length
  keys : ∀ j (h : j < ts.length), ∃ x ∈ l, x.data = ts[j] ∧ ks[j]? = some x.key
  back : ∀ x ∈ l, x.data ∈ ts ∧ x.refs = ts.count x.data
theorem PutsIs.nil : PutsIs [] [] [] := ⟨rfl, fun j h => absurd h (Nat.not_lt_zero _), fun x h => by cases h⟩
theorem put_keeps (hd : (l.map One.data).Nodup) (data : List UInt8) {x : One} (hx : x ∈ l) : ∃ y ∈ (putB l data).1, y.data = x.data ∧ y.key = x.key := by
  by_cases hz : ∃ z ∈ l, z.data = data
  · obtain ⟨z, hz, rfl⟩ := hz
    rw [putB_old hd hz rfl]
    refine ⟨if x.key = z.key then { x with refs := z.refs + 1 } else x, List.mem_map.2 ⟨x, hx, rfl⟩, ?_, ?_⟩ <;> split <;> rfl
  · rw [putB_new fun x h1 h2 => hz ⟨x, h1, h2⟩]
    exact ⟨x, List.mem_append_left _ hx, rfl, rfl⟩
theorem put_has (hd : (l.map One.data).Nodup) (data : List UInt8) : ∃ y ∈ (putB l data).1, y.data = data ∧ y.key = (putB l data).2 := by
  by_cases hz : ∃ z ∈ l, z.data = data
  · obtain ⟨z, hz, rfl⟩ := hz
    rw [putB_old hd hz rfl]
    exact ⟨{ z with refs := z.refs + 1 }, List.mem_map.2 ⟨z, hz, if_pos rfl⟩, rfl, rfl⟩
  · rw [putB_new fun x h1 h2 => hz ⟨x, h1, h2⟩]
    exact ⟨_, List.mem_append_right _ (List.mem_singleton.2 rfl), rfl, rfl⟩
theorem PutsIs.put {ts ks : List (List UInt8)} (h : PutsIs ts ks l) (hk : (l.map One.key).Nodup) (hd : (l.map One.data).Nodup) (data : List UInt8) : PutsIs (ts ++ [data]) (ks ++ [(putB l data).2]) (putB l data).1 := by
  refine ⟨by simp [h.len], fun j hj => ?_, fun y hy => ?_⟩
  · rw [List.length_append, List.length_singleton] at hj
    by_cases h1 : j < ts.length
    · obtain ⟨x, hx, e1, e2⟩ := h.keys j h1
      obtain ⟨y, hy, e3, e4⟩ := put_keeps hd data hx
      refine ⟨y, hy, ?_, ?_⟩
      · rw [e3, e1, List.getElem_append_left h1]
      · rw [List.getElem?_append_left (by rw [h.len]; exact h1), e2, e4]
    · have h1 : j = ts.length := by omega
      subst h1
      obtain ⟨y, hy, e3, e4⟩ := put_has hd data
      refine ⟨y, hy, by rw [e3]; simp, ?_⟩
      rw [e4, ← h.len]; simp
  · by_cases hz : ∃ z ∈ l, z.data = data
    · obtain ⟨z, hz, rfl⟩ := hz
      rw [putB_old hd hz rfl] at hy
      obtain ⟨x, hx, e1, e2, e3, e4, e5⟩ := mem_upd hy
      obtain ⟨h1, h2⟩ := h.back x hx
      refine ⟨List.mem_append_left _ (by rw [e4]; exact h1), ?_⟩
      rw [e5, e4, List.count_append]
      by_cases he : x.key = z.key
      · have := nd_key hk hx hz he
        subst this
        rw [if_pos rfl, h2]; simp
      · rw [if_neg he, h2, List.count_singleton, if_neg]
        · rfl
        · intro e
          exact he (by rw [nd_data hd hx hz (beq_iff_eq.1 e).symm])
    · have hz : ∀ x ∈ l, x.data ≠ data := fun x h1 h2 => hz ⟨x, h1, h2⟩
      rw [putB_new hz] at hy
      rcases List.mem_append.1 hy with hy | hy
      · obtain ⟨h1, h2⟩ := h.back y hy
        refine ⟨List.mem_append_left _ h1, ?_⟩
        rw [List.count_append, h2, List.count_singleton, if_neg]
        · rfl
        · intro e; exact hz y hy (beq_iff_eq.1 e).symm
      · rw [List.mem_singleton.1 hy]
        refine ⟨by simp, ?_⟩
        have h0 : ts.count data = 0 := List.count_eq_zero.2 fun hm => by
          obtain ⟨j, hj, e⟩ := List.mem_iff_getElem.1 hm
          obtain ⟨x, hx, e1, _⟩ := h.keys j hj
          exact hz x hx (e1.trans e)
        rw [List.count_append, h0]; simp
theorem BlobIs.all (h : BlobIs rows m l K) : (bkeysP rows m [98, 47]).Perm (l.map One.key) := by
  refine (List.perm_ext_iff_of_nodup (nodup_bkeys h.rnd h.mnd _) h.knd).2 fun k => ?_
  rw [mem_bkeys h.mnd, List.mem_map]
  constructor
  · rintro ⟨h1, h2⟩
    obtain ⟨x, hx, e⟩ := h.only k h1 h2
    exact ⟨x, hx, e⟩
  · rintro ⟨x, hx, rfl⟩
    exact ⟨by rw [h.has x hx], keyB_b _ _⟩
theorem BlobIs.all_len (h : BlobIs rows m l K) : (bkeysP rows m [98, 47]).length = l.length := by rw [h.all.length_eq, List.length_map]
def sweepOne (held : List (List UInt8)) (x : One) : Option One := if held.count x.key = 0 then none else some { x with refs := held.count x.key }
def sweepB (l : List One) (held : List (List UInt8)) : List One := l.filterMap (sweepOne held)
def sweepAt (l : List One) (held done : List (List UInt8)) : List One := l.filterMap fun x => if x.key ∈ done then sweepOne held x else some x
variable {held done : List (List UInt8)} {k : List UInt8}
theorem find_some {x : One} (h : findB l k = some x) : x ∈ l ∧ x.key = k := ⟨List.mem_of_find?_eq_some h, by have := List.find?_some h; simpa using this⟩
theorem BlobIs.get_some (h : BlobIs rows m l K) {x : One} (hf : findB l k = some x) : bgetE rows m k = (valB x.refs x.data, true) ∧ k.take 2 = [98, 47] := by
  obtain ⟨hx, rfl⟩ := find_some hf
  exact ⟨h.has x hx, rfl⟩
theorem BlobIs.get_none (h : BlobIs rows m l K) (hf : findB l k = none) : (bgetE rows m k).2 = false ∨ k.take 2 ≠ [98, 47] := by
  by_cases h1 : k.take 2 = [98, 47]
  · left
    cases h2 : (bgetE rows m k).2 with
    | false => rfl
    | true =>
      obtain ⟨x, hx, e⟩ := h.only k h2 (decide_eq_true h1)
      exact absurd (List.find?_eq_none.1 hf x hx) (by simp [e])
  · exact .inr h1
def relO (x : One) : Chg := if 1 < x.refs then ⟨x.key, valB (x.refs - 1) x.data, false⟩ else ⟨x.key, [], true⟩
theorem PutsIs.empty {ks : List (List UInt8)} (h : PutsIs [] ks l) : l = [] := by
  cases l with
  | nil => rfl
  | cons x l => exact absurd (h.back x (List.mem_cons_self ..)).1 (by simp)
end
end Go.Proofs.YtobfdeiimnnanaaGreatDoor

/- What is proved: texts told by others, as pieces. Conditions: as each names them. -/
namespace Go.J
open Go
inductive Pc where
  | ins (s : List UInt8)
  | cpy (i k : Nat)
def Pc.bytes : Pc → List UInt8
  | .ins s => putN (2 * s.length) ++ s
  | .cpy i k => putN (2 * k + 1) ++ putN i
def Pc.text (base : List UInt8) : Pc → List UInt8
  | .ins s => s
  | .cpy i k => (base.drop i).take k
def Pc.ok (base : List UInt8) : Pc → Prop
  | .ins s => s ≠ []
  | .cpy i k => 0 < k ∧ i + k ≤ base.length
def Pc.size : Pc → Nat
  | .ins s => s.length
  | .cpy _ k => k
def pcBytes (ps : List Pc) : List UInt8 := ps.flatMap Pc.bytes
def pcText (base : List UInt8) (ps : List Pc) : List UInt8 := ps.flatMap (Pc.text base)
def deltaE (n : Nat) (ps : List Pc) : List UInt8 := putN n ++ pcBytes ps
structure DeltaOf (base text : List UInt8) (ps : List Pc) : Prop where
  ok : ∀ p ∈ ps, p.ok base
  text : pcText base ps = text
theorem Pc.size_text {base : List UInt8} {p : Pc} (h : p.ok base) : (p.text base).length = p.size := by
  cases p with
  | ins s => rfl
  | cpy i k =>
    have h : 0 < k ∧ i + k ≤ base.length := h
    show ((base.drop i).take k).length = k
    rw [List.length_take, List.length_drop]; omega
theorem Pc.size_pos {base : List UInt8} {p : Pc} (h : p.ok base) : 0 < p.size := by
  cases p with
  | ins s => exact List.length_pos_iff.2 h
  | cpy i k => exact h.1
theorem pcBytes_cons (p : Pc) (ps : List Pc) : pcBytes (p :: ps) = p.bytes ++ pcBytes ps := by unfold pcBytes; rw [List.flatMap_cons]
theorem pcText_cons (base : List UInt8) (p : Pc) (ps : List Pc) : pcText base (p :: ps) = p.text base ++ pcText base ps := by unfold pcText; rw [List.flatMap_cons]
theorem pcText_snoc (base : List UInt8) (p : Pc) (ps : List Pc) : pcText base (ps ++ [p]) = pcText base ps ++ p.text base := by unfold pcText; rw [List.flatMap_append]; simp
end Go.J

/- What is proved: how a text is cut into pieces of another one. Conditions: as each names them. -/
namespace Go.J
open Go Go.RowKit
def intV (n : Nat) : Value := .int .i64 (n : Int)
theorem intV_inj {a b : Nat} (h : intV a = intV b) : a = b := by
  unfold intV at h
  simp only [Value.int.injEq, true_and] at h
  omega
def blkE (s : List UInt8) (i : Nat) : List UInt8 := (s.take (i + 8)).drop i
structure Plc (base : List UInt8) (i : Nat) (tm : KV) : Prop where
  at_ : ∀ x v, mget tm x = some v → ∃ j, v = intV j ∧ j + 8 ≤ base.length ∧ blkE base j = x
  zero : 0 < i → mget tm (blkE base 0) = some (intV 0)
  nil : i = 0 → tm = []
theorem Plc.start (base : List UInt8) : Plc base 0 [] := ⟨fun x v h => (by cases h), fun h => absurd h (by omega), fun _ => rfl⟩
theorem Plc.set {base : List UInt8} {i : Nat} {tm : KV} (h : Plc base i tm) (hi : i + 8 ≤ base.length) (hn : mget tm (blkE base i) = none) : Plc base (i + 1) (mset tm (blkE base i) (intV i)) := by
  refine ⟨fun x v hx => ?_, fun _ => ?_, fun h0 => by omega⟩
  · rw [mget_set] at hx
    split at hx
    · rename_i e
      cases hx
      exact ⟨i, rfl, hi, e.symm⟩
    · exact h.at_ x v hx
  · rw [mget_set]
    by_cases h0 : i = 0
    · subst h0; rw [if_pos rfl]
    · have hz := h.zero (by omega)
      rw [if_neg (fun e => by rw [e, hn] at hz; cases hz)]
      exact hz
theorem Plc.keep {base : List UInt8} {i : Nat} {tm : KV} {v : Value} (h : Plc base i tm) (hs : mget tm (blkE base i) = some v) : Plc base (i + 1) tm := by
  refine ⟨h.at_, fun _ => ?_, fun h0 => by omega⟩
  by_cases h0 : i = 0
  · rw [h.nil h0] at hs; cases hs
  · exact h.zero (by omega)
def insP (s : List UInt8) : List Pc := if s = [] then [] else [.ins s]
theorem insP_ok (base s : List UInt8) : ∀ p ∈ insP s, p.ok base := by
  unfold insP
  split
  · intro p hp; cases hp
  · rename_i h
    intro p hp
    rw [List.mem_singleton] at hp
    subst hp
    exact h
theorem insP_text (base s : List UInt8) : pcText base (insP s) = s := by
  unfold insP pcText
  split
  · rename_i h; rw [h]; rfl
  · simp [Pc.text]
theorem pcText_app (base : List UInt8) (a b : List Pc) : pcText base (a ++ b) = pcText base a ++ pcText base b := by unfold pcText; rw [List.flatMap_append]
theorem pcBytes_app (a b : List Pc) : pcBytes (a ++ b) = pcBytes a ++ pcBytes b := by unfold pcBytes; rw [List.flatMap_append]
structure Enc (base text : List UInt8) (fr at_ : Nat) (ps : List Pc) : Prop where
  le1 : fr ≤ at_
  le2 : at_ ≤ text.length
  ok : ∀ p ∈ ps, p.ok base
  txt : pcText base ps = text.take fr
  self : base = text → 8 ≤ text.length → (at_ = 0 ∧ ps = []) ∨ (at_ = text.length ∧ fr = text.length ∧ ps = [.cpy 0 text.length])
theorem Enc.start (base text : List UInt8) : Enc base text 0 0 [] := ⟨Nat.le_refl _, Nat.zero_le _, fun p hp => (by cases hp), by simp [pcText], fun _ _ => .inl ⟨rfl, rfl⟩⟩
theorem Enc.miss {base text : List UInt8} {fr at_ n : Nat} {ps : List Pc} {tm : KV} (h : Enc base text fr at_ ps) (hp : Plc base n tm) (hn : base.length < n + 8) (hlt : at_ < text.length) (hm : at_ + 8 ≤ text.length → mget tm (blkE text at_) = none) : Enc base text fr (at_ + 1) ps := by
  refine ⟨by have := h.le1; omega, hlt, h.ok, h.txt, fun e h8 => ?_⟩
  rcases h.self e h8 with ⟨h1, h2⟩ | ⟨h1, h2⟩
  · subst h1 e
    have := hm (by omega)
    rw [hp.zero (by omega)] at this
    cases this
  · omega
theorem blk_at {s : List UInt8} {i j : Nat} (hj : j < 8) : (blkE s i)[j]? = s[i + j]? := by
  unfold blkE
  rw [List.getElem?_drop, List.getElem?_take, if_pos (by omega)]
structure Run (base text : List UInt8) (i at_ k : Nat) : Prop where
  le1 : i + k ≤ base.length
  le2 : at_ + k ≤ text.length
  same : ∀ j, j < k → base[i + j]? = text[at_ + j]?
theorem Run.step {base text : List UInt8} {i at_ k : Nat} (h : Run base text i at_ k) (h1 : i + k < base.length) (h2 : at_ + k < text.length) (e : base[i + k] = text[at_ + k]) : Run base text i at_ (k + 1) := by
  refine ⟨by omega, by omega, fun j hj => ?_⟩
  rcases Nat.lt_or_ge j k with hl | hg
  · exact h.same j hl
  · obtain rfl : j = k := by omega
    rw [List.getElem?_eq_getElem h1, List.getElem?_eq_getElem h2, e]
theorem Enc.hit {base text : List UInt8} {fr at_ n i k : Nat} {ps : List Pc} {tm : KV} (h : Enc base text fr at_ ps) (hp : Plc base n tm) (hn : base.length < n + 8) (h8 : at_ + 8 ≤ text.length) (hm : mget tm (blkE text at_) = some (intV i))
    (hr : Run base text i at_ k) (hend : ∀ (h1 : i + k < base.length) (h2 : at_ + k < text.length), base[i + k] ≠ text[at_ + k]) :
    0 < k ∧ Enc base text (at_ + k) (at_ + k) (ps ++ insP ((text.take at_).drop fr) ++ [.cpy i k]) := by
  obtain ⟨j, e1, e2, e3⟩ := hp.at_ _ _ hm
  obtain rfl := intV_inj e1
  have hk : 0 < k := by
    apply Nat.pos_of_ne_zero
    rintro rfl
    refine hend (by omega) (by omega) ?_
    have h0 := congrArg (fun l => l[0]?) e3
    rw [blk_at (by decide), blk_at (by decide), List.getElem?_eq_getElem (by omega), List.getElem?_eq_getElem (by omega)] at h0
    exact Option.some.inj h0
  have htk : (base.drop i).take k = (text.drop at_).take k := by
    apply List.ext_getElem?
    intro j
    rw [List.getElem?_take, List.getElem?_take]
    split
    · rename_i hj; rw [List.getElem?_drop, List.getElem?_drop]; exact hr.same j hj
    · rfl
  have hl1 := h.le1
  refine ⟨hk, Nat.le_refl _, hr.le2, fun p hp => ?_, ?_, fun e h8' => ?_⟩
  · rcases List.mem_append.1 hp with hp | hp
    · rcases List.mem_append.1 hp with hp | hp
      · exact h.ok p hp
      · exact insP_ok base _ p hp
    · rw [List.mem_singleton] at hp
      subst hp
      exact ⟨hk, hr.le1⟩
  · rw [pcText_app, pcText_app, h.txt, insP_text]
    have e4 : pcText base [.cpy i k] = (text.drop at_).take k := by unfold pcText; simp only [List.flatMap_cons, List.flatMap_nil, List.append_nil]; exact htk
    rw [e4]
    have e5 : text.take fr ++ (text.take at_).drop fr = text.take at_ := by
      have := List.take_append_drop fr (text.take at_)
      rwa [List.take_take, Nat.min_eq_left hl1] at this
    rw [e5]
    have := List.take_append_drop at_ (text.take (at_ + k))
    rw [List.take_take, Nat.min_eq_left (by omega)] at this
    rw [List.drop_take, Nat.add_sub_cancel_left] at this
    exact this
  · subst e
    rcases h.self rfl h8' with ⟨h1, h2⟩ | ⟨h1, h2, h3⟩
    · subst h1 h2
      have hf0 : fr = 0 := by omega
      subst hf0
      have hi0 : i = 0 := by
        rw [hp.zero (by omega)] at hm
        exact (intV_inj (Option.some.inj hm)).symm
      subst hi0
      have hke : k = base.length := by
        have := hr.le1
        apply Classical.byContradiction
        intro hne
        exact hend (by omega) (by omega) rfl
      subst hke
      exact .inr ⟨by omega, by omega, by simp [insP]⟩
    · omega
theorem Enc.done {base text : List UInt8} {fr : Nat} {ps : List Pc} (h : Enc base text fr text.length ps) : DeltaOf base text (ps ++ insP (text.drop fr)) ∧ (base = text → 8 ≤ text.length → ps ++ insP (text.drop fr) = [.cpy 0 text.length]) := by
  refine ⟨⟨fun p hp => ?_, ?_⟩, fun e h8 => ?_⟩
  · rcases List.mem_append.1 hp with hp | hp
    · exact h.ok p hp
    · exact insP_ok base _ p hp
  · rw [pcText_app, h.txt, insP_text, List.take_append_drop]
  · rcases h.self e h8 with ⟨h1, h2⟩ | ⟨h1, h2, h3⟩
    · omega
    · rw [h3, h2, List.drop_length]; rfl
theorem pcBytes_le {base : List UInt8} {ps : List Pc} (hok : ∀ p ∈ ps, p.ok base) (hb : base.length ≤ 549755813888) (ht : (pcText base ps).length ≤ 549755813888) : (pcBytes ps).length ≤ 20 * (pcText base ps).length := by
  induction ps with
  | nil => simp [pcBytes]
  | cons p ps ih =>
    rw [pcText_cons] at ht ⊢
    rw [pcBytes_cons, List.length_append, List.length_append]
    rw [List.length_append] at ht
    have h1 := ih (fun q hq => hok q (List.mem_cons_of_mem _ hq)) (by omega)
    have h2 := hok p (List.mem_cons_self ..)
    have h3 := Pc.size_text h2
    have h4 := Pc.size_pos h2
    have h5 : p.bytes.length ≤ 20 * p.size := by
      cases p with
      | ins s =>
        have h3 : (Pc.text base (.ins s)).length = s.length := h3
        have := putN_len10 (n := 2 * s.length) (by omega)
        show (putN (2 * s.length) ++ s).length ≤ 20 * s.length
        have h4 : 0 < s.length := h4
        rw [List.length_append]; omega
      | cpy i k =>
        have h2 : 0 < k ∧ i + k ≤ base.length := h2
        have := putN_len10 (n := 2 * k + 1) (by omega)
        have := putN_len10 (n := i) (by omega)
        show (putN (2 * k + 1) ++ putN i).length ≤ 20 * k
        rw [List.length_append]; omega
    omega
end Go.J

/- What is proved: what Encode and Apply of the package delta answer. Conditions: texts of bounded length; Apply at what pieces make. -/
namespace Go.Proofs.YtobfdeiimnnanaaGreatDoor
open Go Go.J Go.RowKit
theorem i64_and1 {n : Nat} (h : n < 9223372036854775808) : bits .and .i64 (n : Int) 1 = ((n % 2 : Nat) : Int) := by
  show IntKind.i64.wrap ((BitVec.ofInt 64 (n : Int) &&& BitVec.ofInt 64 1).toNat : Int) = _
  have h1 : (BitVec.ofInt 64 1).toNat = 1 := by decide
  have h2 : (BitVec.ofInt 64 (n : Int)).toNat = n := by
    rw [BitVec.ofInt_natCast, BitVec.toNat_ofNat]; exact Nat.mod_eq_of_lt (by omega)
  rw [BitVec.toNat_and, h1, h2, Nat.and_one_is_mod, IntKind.wrap_i64]
  omega
theorem look_some {z v : Value} {tm : KV} {x : List UInt8} (h : mget tm x = some v) : lookV z tm x true = .tuple #[v, .bool true] := by unfold lookV; rw [h]; rfl
theorem look_none {z : Value} {tm : KV} {x : List UInt8} (h : mget tm x = none) : lookV z tm x true = .tuple #[z, .bool false] := by unfold lookV; rw [h]; rfl
set_option maxHeartbeats 4000000 in
set_option maxRecDepth 100000 in
theorem blen_c (q : Nat) (s : List UInt8) (fp : List Nat) (w0 : World) (hi : InL w0 [sbC q s fp]) : Cal Tryz.prog 176 [.pointer (some ⟨q, 0, none⟩)] w0
    (fun v w' => v = .int .i64 (s.length : Int) ∧ ∃ fp', MutL w0 w' [sbC q s fp] [sbC q s fp']) := by
  refine Cal.mkL hi (by kernel_rfl) Tryz.func176 rfl rfl fun hS => ?_
  obtain ⟨D, hφ, hfp, hS⟩ := St.objOpen hS
  obtain ⟨p, A, n, cap, rfl, hcl⟩ : ∃ p A n cap, D = sbD q p A n cap s ∧ sbφ q s (sbD q p A n cap s) := by
    rcases hφ with ⟨rfl, rfl⟩ | ⟨A, n, cap, rfl, hA⟩
    · exact ⟨_, _, _, _, rfl, .inl ⟨rfl, rfl⟩⟩
    · exact ⟨_, _, _, _, rfl, .inr ⟨_, _, _, rfl, hA⟩⟩
  replace hS : St w0 (fps [sbC q s fp]) w0 [.box q 199 [.pointer p, .slice A n cap], .own (.slice A n cap) 5 1 n (byteC s)] _ := hS
  have hlen := (hS.own_len (List.Mem.tail _ (List.Mem.head _))).1
  rw [byteC_len, Nat.mul_one] at hlen
  subst hlen
  repeat' (first | (show WL _ _ _ _ _ _ _; first | refine WL.pure rfl rfl rfl rfl ?_ | refine WL.nil ?_ | refine WL.load hS rfl rfl (LdOk.box Mm rfl) rfl rfl rfl ?_) | (show WC _ _ _ _ _ _; first | refine WC.seq ?_ | refine WC.region ?_ | refine WC.ret ?_) | refine seqQ_n ?_)
  exact fin1r rfl rfl ⟨rfl, _, (St.objClose (H := []) (φ := sbφ q s) (D := sbD q p A s.length cap s) hS hcl).mutLp Pu⟩
set_option maxHeartbeats 4000000 in
set_option maxRecDepth 100000 in
theorem dinsert_c (q : Nat) (acc s : List UInt8) (fp : List Nat) (w0 : World) (hi : InL w0 [sbC q acc fp]) (hl : acc.length + s.length ≤ 549755813888) :
    Cal Tryz.prog 209 [.pointer (some ⟨q, 0, none⟩), str s] w0 (fun v w' => v = .tuple #[] ∧ ∃ fp', MutL w0 w' [sbC q acc fp] [sbC q (acc ++ pcBytes (insP s)) fp']) := by
  refine Cal.mkL hi (by kernel_rfl) Tryz.func209 rfl rfl fun hS => ?_
  have h10 := putN_len10 (n := 2 * s.length) (by omega)
  by_cases hs : s = []
  · have e : pcBytes (insP s) = [] := by rw [hs]; rfl
    rw [e, List.append_nil]
    subst hs
    repeat' (first | (show WL _ _ _ _ _ _ _; first | refine WL.pure rfl rfl rfl rfl ?_ | refine WL.nil ?_) | (show WC _ _ _ _ _ _; first | refine WC.seq ?_ | refine WC.region ?_ | refine WC.skip ?_ | refine WC.condF rfl (by decide) ?_) | refine seqQ_n ?_)
    exact fin0n rfl ⟨rfl, _, hS.mutLp Pu⟩
  · have e : pcBytes (insP s) = putN (2 * s.length) ++ s := by unfold insP; rw [if_neg hs]; simp [pcBytes, Pc.bytes]
    rw [e]
    have hne : decide (s ≠ []) = true := decide_eq_true hs
    have hlen : (putN (2 * s.length) ++ s).length = (putN (2 * s.length)).length + s.length := List.length_append
    have e2 : (2 : Int) * (s.length : Int) = ((2 * s.length : Nat) : Int) := by omega
    repeat' (first | (show WL _ _ _ _ _ _ _; first | refine WL.pure rfl rfl rfl rfl ?_ | refine WL.nil ?_ | (refine WL.mul rfl rfl rfl (by omega) rfl rfl rfl ?_) | (refine WL.calls hS rfl (congrArg (fun z => [Value.int .i64 z]) e2) (wuint_c (2 * s.length) _ (by omega)) rfl rfl rfl ?_; rintro v w rfl hS) | (refine WL.callL (D := [sbC q acc fp]) hS Pu rfl rfl (fun hI => bwrites_c q acc (putN (2 * s.length) ++ s) fp _ hI.head hI.headB (by omega)) rfl rfl rfl ?_; rintro v w ⟨rfl, fp2, hmu⟩ hS; replace hS := hS _ (.of1 hmu); clear hmu) | refine WL.cat rfl rfl rfl (by omega) rfl rfl rfl ?_) | (show WC _ _ _ _ _ _; first | refine WC.seq ?_ | refine WC.region ?_ | refine WC.condT rfl (decide_eq_true (by first | with_reducible assumption | omega)) ?_) | refine seqQ_n ?_)
    exact fin0n rfl ⟨rfl, _, hS.mutLp Pu⟩
set_option maxHeartbeats 16000000 in
set_option maxRecDepth 100000 in
theorem dencode_c (base text : List UInt8) (w0 : World) (hb : base.length ≤ 549755813888) (ht : text.length ≤ 4096) :
    Cal Tryz.prog 178 [str base, str text] w0 (fun v w' => Upd [] w0 w' ∧ ∃ ps, v = str (deltaE text.length ps) ∧ DeltaOf base text ps ∧ (deltaE text.length ps).length ≤ 1048576 ∧ (base = text → 8 ≤ text.length → ps = [.cpy 0 text.length])) := by
  refine Cal.mk' (by kernel_rfl) Tryz.func178 rfl rfl fun hS => ?_
  have h10 := putN_len10 (n := text.length) (by omega)
  have hsz : ∀ {ps : List Pc} {x : List UInt8}, (∀ p ∈ ps, p.ok base) → pcText base ps = x → x.length ≤ 4096 → (deltaE text.length ps).length ≤ 262144 := fun {ps x} h1 h2 h3 => by
    have := pcBytes_le h1 hb (by rw [h2]; omega)
    rw [h2] at this
    unfold deltaE
    rw [List.length_append]
    omega
  repeat' (first | (show WL _ _ _ _ _ _ _; first | refine WL.pure rfl rfl rfl rfl ?_ | refine WL.nil ?_ | (refine WL.mmake hS rfl rfl rfl rfl rfl ?_; intro w tb hS)) | (show WC _ _ _ _ _ _; first | refine WC.seq ?_ | refine WC.region ?_ | refine WC.block ?_) | refine seqQ_n ?_)
  refine WC.loop (σ := Nat × KV) [0, 1, 5] (fun (i, _) => [(6, .int .i64 (i : Int))]) (fun (i, tm) w => (i ≤ base.length ∧ Plc base i tm) ∧ St w0 [] w [mapC tb tm] [⟨w0, Old w0⟩])
    (fun (i, _) => base.length - i) (0, []) ⟨⟨Nat.zero_le _, Plc.start base⟩, hS⟩ ⟨rfl, trivial⟩ ?_
  clear hS
  rintro ⟨i, tm⟩ g w ⟨⟨hi, hpl⟩, hS⟩
  show WC _ _ _ (lf _ [(6, .int .i64 (i : Int))] _ _) _ _
  by_cases hlt : i + 8 ≤ base.length
  · cases hm : mget tm (blkE base i) with
    | some v =>
      have hlk := look_some (z := .int .i64 0) hm
      have hpl2 := hpl.keep hm
      have hv := hpl.at_ _ _ hm
      obtain ⟨vj, rfl, _, _⟩ := hv
      clear hpl hm hsz
      repeat' (first | (show WL _ _ _ _ _ _ _; first | refine WL.pure rfl rfl rfl rfl ?_ | refine WL.nil ?_ | refine WL.add rfl rfl rfl (by omega) rfl rfl rfl ?_ | (refine WL.midS (i := i) (j := i + 8) rfl rfl rfl rfl (vint (show ((i : Int) + 8) = ((i + 8 : Nat) : Int) by omega)) (by omega) (by omega) rfl rfl rfl ?_) | (refine WL.mget hS rfl rfl rfl rfl (.mk' Mm) hlk rfl rfl rfl ?_)) | (show WC _ _ _ _ _ _; first | refine WC.seq ?_ | refine WC.region ?_ | refine WC.block ?_ | refine WC.skip ?_ | refine WC.condF rfl (by decide) ?_ | refine WC.condT rfl (decide_eq_true (by first | with_reducible assumption | omega)) ?_) | refine seqQ_n ?_ | refine blkQ_n ?_)
      exact rndQ_n (i + 1, tm) ⟨⟨by omega, hpl2⟩, hS⟩ (by show base.length - (i + 1) < base.length - i; omega) ⟨vint (by omega), trivial⟩ ⟨rfl, rfl, rfl, trivial⟩
    | none =>
      have hlk := look_none (z := .int .i64 0) hm
      have hpl2 := hpl.set hlt hm
      clear hpl hm hsz
      repeat' (first | (show WL _ _ _ _ _ _ _; first | refine WL.pure rfl rfl rfl rfl ?_ | refine WL.nil ?_ | refine WL.add rfl rfl rfl (by omega) rfl rfl rfl ?_ | (refine WL.midS (i := i) (j := i + 8) rfl rfl rfl rfl (vint (show ((i : Int) + 8) = ((i + 8 : Nat) : Int) by omega)) (by omega) (by omega) rfl rfl rfl ?_) | (refine WL.mget hS rfl rfl rfl rfl (.mk' Mm) hlk rfl rfl rfl ?_) | (refine WL.mset (s := blkE base i) (u := intV i) hS (.inl rfl) rfl rfl rfl rfl Rp rfl rfl ?_; intro w hS)) | (show WC _ _ _ _ _ _; first | refine WC.seq ?_ | refine WC.region ?_ | refine WC.block ?_ | refine WC.skip ?_ | refine WC.condT rfl (by decide) ?_ | refine WC.condT rfl (decide_eq_true (by first | with_reducible assumption | omega)) ?_) | refine seqQ_n ?_ | refine blkQ_n ?_)
      exact rndQ_n (i + 1, mset tm (blkE base i) (intV i)) ⟨⟨by omega, hpl2⟩, hS⟩ (by show base.length - (i + 1) < base.length - i; omega) ⟨vint (by omega), trivial⟩ ⟨rfl, rfl, rfl, trivial⟩
  · have hn : base.length < i + 8 := by omega
    have e0 : ([] : List UInt8) ++ putN text.length = deltaE text.length [] := by unfold deltaE pcBytes; simp
    repeat' (first | (show WL _ _ _ _ _ _ _; first | refine WL.pure rfl rfl rfl rfl ?_ | refine WL.nil ?_ | refine WL.add rfl rfl rfl (by omega) rfl rfl rfl ?_ | (refine WL.alloc (t := 199) hS rfl rfl rfl rfl rfl rfl ?_; intro w sb hS; have hS := (hS.nilRow 5 1).perm (.swap _ _ _); have hS := St.objClose (H := [mapC tb tm]) (φ := sbφ sb []) (D := sbD sb none none 0 0 []) hS (.inl ⟨rfl, rfl⟩)) | (refine WL.calls hS rfl rfl (wuint_c text.length _ (by omega)) rfl rfl rfl ?_; rintro v w rfl hS) | (refine WL.callG rfl rfl (bwrites_c sb [] (putN text.length) _ _ (hS.holds _ (List.Mem.head _)) (hS.inB_of (List.Mem.head _)) (by rw [List.length_nil]; omega)) rfl rfl rfl ?_; rintro v w ⟨rfl, fp', hmut⟩; have hS := hS.mut hmut .here; rw [e0] at hS; clear hmut)) | (show WC _ _ _ _ _ _; first | refine WC.seq ?_ | refine WC.region ?_ | refine WC.block ?_ | refine WC.exit ?_ | refine WC.condF rfl (decide_eq_false (by first | with_reducible assumption | omega)) ?_) | refine seqQ_n ?_ | refine seqQ_x ?_ | refine blkQ_hit rfl ?_ | refine rndQ_x ?_)
    refine WC.loop (σ := Nat × Nat × List Pc × List Nat) [0, 1, 5, 9] (fun (at_, fr, _, _) => [(12, .int .i64 (fr : Int)), (13, .int .i64 (at_ : Int))])
      (fun (at_, fr, ps, fp) w => Enc base text fr at_ ps ∧ St w0 [] w [sbC sb (deltaE text.length ps) fp, mapC tb tm] [⟨w0, Old w0⟩])
      (fun (at_, _) => text.length - at_) (0, 0, [], fp') ⟨Enc.start base text, hS⟩ ⟨rfl, rfl, trivial⟩ ?_
    clear hS
    rintro ⟨at_, fr, ps, fp⟩ g2 w ⟨hen, hS⟩
    show WC _ _ _ (lf _ [(12, .int .i64 (fr : Int)), (13, .int .i64 (at_ : Int))] _ _) _ _
    have hle1 := hen.le1
    have hle2 := hen.le2
    have hsz1 := hsz hen.ok hen.txt (by rw [List.length_take]; omega)
    by_cases hat : at_ < text.length
    · by_cases h8 : at_ + 8 ≤ text.length
      · cases hm : mget tm (blkE text at_) with
        | none =>
          have hlk := look_none (z := .int .i64 0) hm
          have hen2 := hen.miss hpl hn hat (fun _ => hm)
          clear hpl hm hsz hen
          repeat' (first | (show WL _ _ _ _ _ _ _; first | refine WL.pure rfl rfl rfl rfl ?_ | refine WL.nil ?_ | refine WL.add rfl rfl rfl (by omega) rfl rfl rfl ?_ | (refine WL.midS (i := at_) (j := at_ + 8) rfl rfl rfl rfl (vint (show ((at_ : Int) + 8) = ((at_ + 8 : Nat) : Int) by omega)) (by omega) (by omega) rfl rfl rfl ?_) | (refine WL.mget hS rfl rfl rfl rfl (.mk' Mm) hlk rfl rfl rfl ?_)) | (show WC _ _ _ _ _ _; first | refine WC.seq ?_ | refine WC.region ?_ | refine WC.block ?_ | refine WC.skip ?_ | refine WC.exit ?_ | refine WC.condT rfl (by decide) ?_ | refine WC.condT rfl (decide_eq_true (by first | with_reducible assumption | omega)) ?_) | refine seqQ_n ?_ | refine seqQ_x ?_ | refine blkQ_hit rfl ?_)
          exact rndQ_n (at_ + 1, fr, ps, fp) ⟨hen2, hS⟩ (by show text.length - (at_ + 1) < text.length - at_; omega) ⟨rfl, vint (by omega), trivial⟩ ⟨rfl, rfl, rfl, rfl, trivial⟩
        | some v =>
          obtain ⟨p, rfl, hp8, _⟩ := hpl.at_ _ _ hm
          have hlk := look_some (z := .int .i64 0) hm
          have hhit := fun (k : Nat) => hen.hit (k := k) hpl hn h8 hm
          clear hpl hm hen
          unfold intV at hlk
          repeat' (first | (show WL _ _ _ _ _ _ _; first | refine WL.pure rfl rfl rfl rfl ?_ | refine WL.nil ?_ | refine WL.add rfl rfl rfl (by omega) rfl rfl rfl ?_ | (refine WL.midS (i := at_) (j := at_ + 8) rfl rfl rfl rfl (vint (show ((at_ : Int) + 8) = ((at_ + 8 : Nat) : Int) by omega)) (by omega) (by omega) rfl rfl rfl ?_) | (refine WL.mget hS rfl rfl rfl rfl (.mk' Mm) hlk rfl rfl rfl ?_)) | (show WC _ _ _ _ _ _; first | refine WC.seq ?_ | refine WC.region ?_ | refine WC.block ?_ | refine WC.skip ?_ | refine WC.condF rfl (by decide) ?_ | refine WC.condT rfl (decide_eq_true (by first | with_reducible assumption | omega)) ?_) | refine seqQ_n ?_)
          refine WC.loop (σ := Nat) [0, 1, 5, 9, 12, 13, 14] (fun k => [(16, .int .i64 (k : Int))]) (fun k w => Run base text p at_ k ∧ St w0 [] w [sbC sb (deltaE text.length ps) fp, mapC tb tm] [⟨w0, Old w0⟩])
            (fun k => base.length - k) 0 ⟨⟨by omega, by omega, fun j hj => absurd hj (Nat.not_lt_zero _)⟩, hS⟩ ⟨rfl, trivial⟩ ?_
          clear hS
          rintro k g3 w ⟨hrun, hS⟩
          show WC _ _ _ (lf _ [(16, .int .i64 (k : Int))] _ _) _ _
          have hr1 := hrun.le1
          have hr2 := hrun.le2
          by_cases hgo : ∃ (h1 : p + k < base.length) (h2 : at_ + k < text.length), base[p + k] = text[at_ + k]
          · obtain ⟨h1, h2, heq⟩ := hgo
            have hrun2 := hrun.step h1 h2 heq
            have hx : base[p + k]? = some base[p + k] := List.getElem?_eq_getElem h1
            have hy : text[at_ + k]? = some base[p + k] := by rw [heq]; exact List.getElem?_eq_getElem h2
            generalize base[p + k] = c at *
            clear heq hrun hsz hhit
            repeat' (first | (show WL _ _ _ _ _ _ _; first | refine WL.pure rfl rfl rfl rfl ?_ | refine WL.nil ?_ | refine WL.add rfl rfl rfl (by omega) rfl rfl rfl ?_) | (show WC _ _ _ _ _ _; first | refine WC.seq ?_ | refine WC.region ?_ | refine WC.block ?_ | refine WC.skip ?_ | (show WC _ _ (Code.region _ (List.toArray [_, _, _, _, _, _, _, _, _, _, _, _, _, _, _, _, _, _, _, _, _, _, _, _, _, _, _]) true) _ _ _; refine WC.drawS hS [0, 1, 2, 3, 4, 5, 6, 7, 8, 9, 10, 11, 12, 13, 14, 15, 16, 17, 18, 19, 20, 21, 22, 23, 24, 25, 26] [0, 1, 2, 3, 4, 5, 6, 7, 8, 9, 10, 11, 12, 13, 14, 15, 16, 17, 18, 19, 20, 21, 22, 23, 24, 25, 26] (by kernel_rfl) (by kernel_rfl) ?_; clear hS; intro w hS hM) | refine WC.condT rfl (decide_eq_true (by first | with_reducible assumption | omega)) ?_) | (show WD _ _ _ _ _ _ _ _ _; first | refine WD.pure rfl rfl rfl rfl rfl ?_ | refine WD.nil ?_ | refine WD.add rfl rfl rfl (by omega) rfl rfl rfl rfl ?_ | (refine WD.idxS (s := base) (j := p + k) (c := c) rfl rfl rfl (vint (show ((p : Int) + (k : Int)) = ((p + k : Nat) : Int) by omega)) hx rfl rfl rfl rfl ?_) | (refine WD.idxS (s := text) (j := at_ + k) (c := c) rfl rfl rfl (vint (show ((at_ : Int) + (k : Int)) = ((at_ + k : Nat) : Int) by omega)) hy rfl rfl rfl rfl ?_) | ((fail_if_success (refine WD.wanted rfl ?_)); refine WD.guard rfl rfl rfl (fun h => ?_) (fun h => ?_) <;> (try simp only [ZZ0, ZZ1, ZZ2, ZZ3, ZZ4, ZZ5, ZZ6, ZZ7, ZZ8, ZZ9, ZZ10, ZZ11, ZZ12, ZZ13, ZZ14, ZZ15] at h) <;> (try (exfalso; first | omega | contradiction)))) | refine seqQ_n ?_ | refine blkQ_n ?_)
            exact rndQ_n (k + 1) ⟨hrun2, hS⟩ (by show base.length - (k + 1) < base.length - k; omega) ⟨vint (by omega), trivial⟩ ⟨rfl, rfl, rfl, rfl, rfl, rfl, rfl, trivial⟩
          · obtain ⟨hkp, hen2⟩ := hhit k hrun (fun h1 h2 e => hgo ⟨h1, h2, e⟩)
            have hsz2 := hsz hen2.ok hen2.txt (by rw [List.length_take]; omega)
            have hsz3 := hsz (ps := ps ++ insP ((text.take at_).drop fr)) (x := pcText base (ps ++ insP ((text.take at_).drop fr))) (fun q hq => hen2.ok q (List.mem_append_left _ hq)) rfl (by
              have h := congrArg List.length hen2.txt
              rw [pcText_app, List.length_append, List.length_take] at h
              omega)
            have ed1 : deltaE text.length ps ++ pcBytes (insP ((text.take at_).drop fr)) = deltaE text.length (ps ++ insP ((text.take at_).drop fr)) := by unfold deltaE; rw [pcBytes_app, List.append_assoc]
            have ed2 : deltaE text.length (ps ++ insP ((text.take at_).drop fr)) ++ (putN (2 * k + 1) ++ putN p) = deltaE text.length (ps ++ insP ((text.take at_).drop fr) ++ [.cpy p k]) := by
              unfold deltaE
              rw [pcBytes_app _ [.cpy p k], List.append_assoc]
              simp [pcBytes, Pc.bytes]
            have hcut : ((text.take at_).drop fr).length ≤ 4096 := by rw [List.length_drop, List.length_take]; omega
            have hm1 := putN_len10 (n := 2 * k + 1) (by omega)
            have ho1 := putN_len10 (n := p) (by omega)
            have hmo : (putN (2 * k + 1) ++ putN p).length = (putN (2 * k + 1)).length + (putN p).length := List.length_append
            have e2 : (2 : Int) * (k : Int) + 1 = ((2 * k + 1 : Nat) : Int) := by omega
            clear hsz hhit hrun
            generalize hps2 : ps ++ insP ((text.take at_).drop fr) ++ [.cpy p k] = ps2 at *
            generalize hps1 : ps ++ insP ((text.take at_).drop fr) = ps1 at *
            have hstop : ¬ p + k < base.length ∨ ¬ at_ + k < text.length ∨ ∃ c c', base[p + k]? = some c ∧ text[at_ + k]? = some c' ∧ (c.toNat : Int) ≠ (c'.toNat : Int) := by
              by_cases h1 : p + k < base.length
              · by_cases h2 : at_ + k < text.length
                · refine .inr (.inr ⟨_, _, List.getElem?_eq_getElem h1, List.getElem?_eq_getElem h2, fun e => hgo ⟨h1, h2, ?_⟩⟩)
                  exact UInt8.toNat_inj.1 (by omega)
                · exact .inr (.inl h2)
              · exact .inl h1
            clear hgo hps1 hps2
            rcases hstop with hst | hst | ⟨c, c', hx, hy, hne⟩
            rotate_left 2
            case' _ =>
              have hx1 : p + k < base.length := (List.getElem?_eq_some_iff.1 hx).1
              have hy1 : at_ + k < text.length := (List.getElem?_eq_some_iff.1 hy).1
            all_goals
              repeat' (first | (show WL _ _ _ _ _ _ _; first | refine WL.pure rfl rfl rfl rfl ?_ | refine WL.nil ?_ | refine WL.add rfl rfl rfl (by omega) rfl rfl rfl ?_ | (refine WL.midS (i := fr) (j := at_) rfl rfl rfl rfl rfl (by omega) (by omega) rfl rfl rfl ?_) | (refine WL.callL (D := [sbC sb (deltaE text.length ps) fp]) hS Pu rfl rfl (fun hI => dinsert_c sb _ _ fp _ hI (by omega)) rfl rfl rfl ?_; rintro v w ⟨rfl, fp2, hmu⟩ hS; rw [ed1] at hmu; replace hS := hS _ hmu; clear hmu) | (refine WL.mul rfl rfl rfl (by omega) rfl rfl rfl ?_) | (refine WL.calls hS rfl (congrArg (fun z => [Value.int .i64 z]) e2) (wuint_c (2 * k + 1) _ (by omega)) rfl rfl rfl ?_; rintro v w rfl hS) | (refine WL.calls hS rfl rfl (wuint_c p _ (by omega)) rfl rfl rfl ?_; rintro v w rfl hS) | (refine WL.callL (D := [sbC sb (deltaE text.length ps1) fp2]) hS Pu rfl rfl (fun hI => bwrites_c sb _ (putN (2 * k + 1) ++ putN p) fp2 _ hI.head hI.headB (by omega)) rfl rfl rfl ?_; rintro v w ⟨rfl, fp3, hmu⟩ hS; rw [ed2] at hmu; replace hS := hS _ (.of1 hmu); clear hmu) | refine WL.cat rfl rfl rfl (by omega) rfl rfl rfl ?_) | (show WC _ _ _ _ _ _; first | refine WC.seq ?_ | refine WC.region ?_ | refine WC.exit ?_ | (show WC _ _ (Code.region _ (List.toArray [_, _, _, _, _, _, _, _, _, _, _, _, _, _, _, _, _, _, _, _, _, _, _, _, _, _, _]) true) _ _ _; refine WC.drawS hS [0, 1, 2, 3, 4, 5, 6, 7, 8, 9, 10, 11, 12, 13, 14, 15, 16, 17, 18, 19, 20, 21, 22, 23, 24, 25, 26] [0, 1, 2, 3, 4, 5, 6, 7, 8, 9, 10, 11, 12, 13, 14, 15, 16, 17, 18, 19, 20, 21, 22, 23, 24, 25, 26] (by kernel_rfl) (by kernel_rfl) ?_; clear hS; intro w hS hM) | refine WC.condF rfl (by with_reducible rfl) ?_ | refine WC.condF rfl (decide_eq_false (by first | with_reducible assumption | omega)) ?_) | (show WD _ _ _ _ _ _ _ _ _; first | refine WD.pure rfl rfl rfl rfl rfl ?_ | refine WD.nil ?_ | refine WD.add rfl rfl rfl (by omega) rfl rfl rfl rfl ?_ | (refine WD.idxS (s := base) (j := p + k) (c := c) rfl rfl rfl (vint (show ((p : Int) + (k : Int)) = ((p + k : Nat) : Int) by omega)) hx rfl rfl rfl rfl ?_) | (refine WD.idxS (s := text) (j := at_ + k) (c := c') rfl rfl rfl (vint (show ((at_ : Int) + (k : Int)) = ((at_ + k : Nat) : Int) by omega)) hy rfl rfl rfl rfl ?_) | refine WD.pass rfl rfl rfl rfl ?_ | ((fail_if_success (refine WD.wanted rfl ?_)); refine WD.guard rfl rfl rfl (fun h => ?_) (fun h => ?_) <;> (try simp only [ZZ0, ZZ1, ZZ2, ZZ3, ZZ4, ZZ5, ZZ6, ZZ7, ZZ8, ZZ9, ZZ10, ZZ11, ZZ12, ZZ13, ZZ14, ZZ15] at h) <;> (try (exfalso; first | omega | contradiction)))) | refine seqQ_n ?_ | refine blkQ_n ?_ | refine seqQ_x ?_ | refine blkQ_hit rfl ?_ | refine rndQ_x ?_)
              all_goals exact rndQ_n (at_ + k, at_ + k, ps2, fp3) ⟨hen2, hS⟩ (by show text.length - (at_ + k) < text.length - at_; omega) ⟨vint (by omega), vint (by omega), trivial⟩ ⟨rfl, rfl, rfl, rfl, trivial⟩
      · have hen2 := hen.miss hpl hn hat (fun h => absurd h h8)
        clear hpl hsz hen
        repeat' (first | (show WL _ _ _ _ _ _ _; first | refine WL.pure rfl rfl rfl rfl ?_ | refine WL.nil ?_ | refine WL.add rfl rfl rfl (by omega) rfl rfl rfl ?_) | (show WC _ _ _ _ _ _; first | refine WC.seq ?_ | refine WC.region ?_ | refine WC.block ?_ | refine WC.skip ?_ | refine WC.exit ?_ | refine WC.condT rfl (by decide) ?_ | refine WC.condT rfl (decide_eq_true (by first | with_reducible assumption | omega)) ?_ | refine WC.condF rfl (decide_eq_false (by first | with_reducible assumption | omega)) ?_) | refine seqQ_n ?_ | refine seqQ_x ?_ | refine blkQ_hit rfl ?_)
        exact rndQ_n (at_ + 1, fr, ps, fp) ⟨hen2, hS⟩ (by show text.length - (at_ + 1) < text.length - at_; omega) ⟨rfl, vint (by omega), trivial⟩ ⟨rfl, rfl, rfl, rfl, trivial⟩
    · have hae : at_ = text.length := by omega
      subst hae
      obtain ⟨hdo, hself⟩ := hen.done
      have hsz2 := hsz hdo.ok hdo.text ht
      have ed1 : deltaE text.length ps ++ pcBytes (insP (text.drop fr)) = deltaE text.length (ps ++ insP (text.drop fr)) := by unfold deltaE; rw [pcBytes_app, List.append_assoc]
      have hcut : (text.drop fr).length ≤ 4096 := by rw [List.length_drop]; omega
      clear hpl hsz hen
      generalize ps ++ insP (text.drop fr) = ps2 at *
      repeat' (first | (show WL _ _ _ _ _ _ _; first | refine WL.pure rfl rfl rfl rfl ?_ | refine WL.nil ?_ | (refine WL.callL (D := [sbC sb (deltaE text.length ps) fp]) hS Pu rfl rfl (fun hI => dinsert_c sb _ _ fp _ hI (by omega)) rfl rfl rfl ?_; rintro v w ⟨rfl, fp2, hmu⟩ hS; rw [ed1] at hmu; replace hS := hS _ hmu; clear hmu) | (refine WL.callG rfl rfl (bstring_c sb (deltaE text.length ps2) _ _ (hS.holds _ (List.Mem.head _)) (hS.inB_of (List.Mem.head _)) (by omega)) rfl rfl rfl ?_; rintro v w ⟨rfl, hu⟩; have hS := hS.lose hu) | refine WL.lowS rfl rfl rfl rfl (by omega) rfl rfl rfl ?_) | (show WC _ _ _ _ _ _; first | refine WC.seq ?_ | refine WC.region ?_ | refine WC.exit ?_ | refine WC.ret ?_ | refine WC.condF rfl (decide_eq_false (by first | with_reducible assumption | omega)) ?_) | refine seqQ_n ?_ | refine seqQ_x ?_ | refine blkQ_hit rfl ?_ | refine rndQ_x ?_)
      exact fin1r rfl rfl ⟨hS.upd, ps2, rfl, hdo, by omega, hself⟩
structure App (base text : List UInt8) (d0 : Nat) (done rest : List Pc) (d : List UInt8) (p : Nat) : Prop where
  ok : ∀ q ∈ rest, q.ok base
  txt : pcText base done ++ pcText base rest = text
  le : p ≤ d.length
  at_ : d.drop p = pcBytes rest
  sz : d.length ≤ d0
theorem App.none {base text : List UInt8} {d0 p : Nat} {done : List Pc} {d : List UInt8} (h : App base text d0 done [] d p) : p = d.length ∧ pcText base done = text := by
  have h1 := congrArg List.length h.at_
  rw [List.length_drop] at h1
  have h1 : d.length - p = 0 := h1
  have := h.le
  refine ⟨by omega, ?_⟩
  have := h.txt
  rwa [show pcText base [] = [] from rfl, List.append_nil] at this
set_option maxHeartbeats 16000000 in
set_option maxRecDepth 100000 in
theorem dapply_c (base text : List UInt8) (ps : List Pc) (w0 : World) (hb : base.length ≤ 549755813888) (ht : text.length ≤ 4096) (hd : DeltaOf base text ps) :
    Cal Tryz.prog 180 [str base, str (deltaE text.length ps)] w0 (fun v w' => Upd [] w0 w' ∧ v = .tuple #[str text, .int .i64 0]) := by
  refine Cal.mk' (by kernel_rfl) Tryz.func180 rfl rfl fun hS => ?_
  have h10 := putN_len10 (n := text.length) (by omega)
  have hpb := pcBytes_le hd.ok hb (by rw [hd.text]; omega)
  rw [hd.text] at hpb
  have hu0 : uintE ((deltaE text.length ps).drop 0) = (text.length, (putN text.length).length, 0) := uintE_put text.length (by omega) (pcBytes ps)
  have hdl : (deltaE text.length ps).length = (putN text.length).length + (pcBytes ps).length := by unfold deltaE; rw [List.length_append]
  have hap : App base text 262144 [] ps (deltaE text.length ps) (0 + (putN text.length).length) := ⟨hd.ok, by rw [hd.text]; rfl, by omega, by unfold deltaE; rw [Nat.zero_add, List.drop_left], by omega⟩
  generalize deltaE text.length ps = d at *
  generalize (putN text.length).length = u0 at *
  clear hd
  repeat' (first | (show WL _ _ _ _ _ _ _; first | refine WL.pure rfl rfl rfl rfl ?_ | refine WL.nil ?_ | (refine WL.callG rfl rfl (wnew_c d _) rfl rfl rfl ?_; rintro v w ⟨hup, r0, rfl, hnew⟩; have hS := hS.new hup hnew; clear hup hnew) | (refine WL.callG rfl rfl (uint_e hu0 (hS.holds _ (List.Mem.head _)) (hS.inB_of (List.Mem.head _)) (by omega) (by omega)) rfl rfl rfl ?_; rintro v w ⟨rfl, hmut⟩; have hS := hS.mut hmut .here; clear hmut) | (refine WL.alloc (t := 199) hS rfl rfl rfl rfl rfl rfl ?_; intro w sb hS; have hS := (hS.nilRow 5 1).perm (.swap _ _ _); have hS := St.objClose (H := [rdC r0 d (0 + u0)]) (φ := sbφ sb []) (D := sbD sb none none 0 0 []) hS (.inl ⟨rfl, rfl⟩))) | (show WC _ _ _ _ _ _; first | refine WC.seq ?_ | refine WC.region ?_ | refine WC.block ?_ | refine WC.skip ?_ | refine WC.condF rfl (by decide) ?_ | refine WC.condF rfl (decide_eq_false (by first | with_reducible assumption | omega)) ?_) | refine seqQ_n ?_)
  clear hpb hdl hu0
  refine WC.loop (σ := List Pc × List Pc × List UInt8 × Nat × Nat × List Nat) [0, 7, 9] (fun (_, _, d, r, _, _) => [(1, str d), (6, .pointer (some ⟨r, 0, none⟩))])
    (fun (done, rest, d, r, p, fp) w => App base text 262144 done rest d p ∧ St w0 [] w [sbC sb (pcText base done) fp, rdC r d p] [⟨w0, Old w0⟩])
    (fun (_, rest, _) => rest.length) ([], ps, d, r0, 0 + u0, _) ⟨hap, hS⟩ ⟨rfl, rfl, trivial⟩ ?_
  clear hS hap
  rintro ⟨done, rest, d, r, p, fp⟩ g w ⟨hap, hS⟩
  show WC _ _ _ (lf _ [(1, str d), (6, .pointer (some ⟨r, 0, none⟩))] _ _) _ _
  have hle := hap.le
  have hsz := hap.sz
  have hle2 : (p : Int) ≤ (d.length : Int) := by omega
  rcases rest with _ | ⟨x, rest⟩
  · obtain ⟨hp, htx⟩ := hap.none
    rw [htx] at hS
    clear hap
    subst hp
    repeat' (first | (show WL _ _ _ _ _ _ _; first | refine WL.pure rfl rfl rfl rfl ?_ | refine WL.nil ?_ | (refine WL.calls hS rfl rfl (left_c r d d.length _ (hS.holds _ (List.Mem.tail _ (List.Mem.head _))) (by omega) (by omega)) rfl rfl rfl ?_; rintro v w rfl hS) | (refine WL.callL (D := [sbC sb text fp]) hS Pu rfl rfl (fun hI => blen_c sb _ fp _ hI) rfl rfl rfl ?_; rintro v w ⟨rfl, fp2, hmu⟩ hS; replace hS := hS _ hmu; clear hmu) | (refine WL.callG rfl rfl (bstring_c sb text _ _ (hS.holds _ (List.Mem.head _)) (hS.inB_of (List.Mem.head _)) (by omega)) rfl rfl rfl ?_; rintro v w ⟨rfl, hu⟩; have hS := hS.lose hu)) | (show WC _ _ _ _ _ _; first | refine WC.seq ?_ | refine WC.region ?_ | refine WC.skip ?_ | refine WC.exit ?_ | refine WC.ret ?_ | refine WC.condF rfl (decide_eq_false (by first | with_reducible assumption | omega)) ?_) | refine seqQ_n ?_ | refine seqQ_x ?_ | refine blkQ_hit rfl ?_ | refine rndQ_x ?_)
    exact fin2r rfl rfl rfl ⟨hS.upd, rfl⟩
  · have hat := hap.at_
    rw [pcBytes_cons] at hat
    have htx := hap.txt
    rw [pcText_cons] at htx
    have hok := hap.ok x (List.mem_cons_self ..)
    have hxs := Pc.size_text hok
    have hxp := Pc.size_pos hok
    have hlt := congrArg List.length htx
    rw [List.length_append, List.length_append, hxs] at hlt
    have hld := congrArg List.length hat
    rw [List.length_drop, List.length_append] at hld
    have hoks : ∀ q ∈ rest, q.ok base := fun q hq => hap.ok q (List.mem_cons_of_mem _ hq)
    clear hap
    rcases x with s | ⟨i, k⟩
    · have hxp : 0 < s.length := hxp
      have hlt : (pcText base done).length + (s.length + (pcText base rest).length) = text.length := hlt
      have hat : d.drop p = putN (2 * s.length) ++ s ++ pcBytes rest := hat
      rw [List.append_assoc] at hat
      have hu : uintE (d.drop p) = (2 * s.length, (putN (2 * s.length)).length, 0) := by rw [hat]; exact uintE_put _ (by omega) _
      have hbl : (Pc.bytes (.ins s)).length = (putN (2 * s.length)).length + s.length := List.length_append
      rw [hbl] at hld
      have hd2 : d.drop (p + (putN (2 * s.length)).length) = s ++ pcBytes rest := by rw [← List.drop_drop, hat, List.drop_left]
      have hcut : (d.take (p + (putN (2 * s.length)).length + s.length)).drop (p + (putN (2 * s.length)).length) = s := by
        rw [List.drop_take, hd2, Nat.add_sub_cancel_left, List.take_left]
      have hd3 : d.drop (p + (putN (2 * s.length)).length + s.length) = pcBytes rest := by rw [← List.drop_drop, hd2, List.drop_left]
      have hap2 : App base text 262144 (done ++ [.ins s]) rest (pcBytes rest) 0 := ⟨hoks, by rw [pcText_snoc, ← htx, List.append_assoc], Nat.zero_le _, rfl, by omega⟩
      have hsn : pcText base done ++ s = pcText base (done ++ [.ins s]) := by rw [pcText_snoc]; rfl
      have hsh : shrI .i64 ((2 * s.length : Nat) : Int) 1 = ((s.length : Nat) : Int) := (shrI_nat .i64 (2 * s.length) 1 (by decide)).trans (by omega)
      have han : bits .and .i64 ((2 * s.length : Nat) : Int) 1 = 0 := by rw [i64_and1 (by omega)]; omega
      clear hat htx hok hxs hoks hd2
      generalize (putN (2 * s.length)).length = u at *
      repeat' (first | (show WL _ _ _ _ _ _ _; first | refine WL.pure rfl rfl rfl rfl ?_ | refine WL.nil ?_ | refine WL.add rfl rfl rfl (by omega) rfl rfl rfl ?_ | refine WL.sub rfl rfl rfl (by omega) rfl rfl rfl ?_ | (refine WL.calls hS rfl rfl (left_c r d p _ (hS.holds _ (List.Mem.tail _ (List.Mem.head _))) (by omega) (by omega)) rfl rfl rfl ?_; rintro v w rfl hS) | (refine WL.calls hS rfl rfl (left_c r d (p + u) _ (hS.holds _ (List.Mem.tail _ (List.Mem.head _))) (by omega) (by omega)) rfl rfl rfl ?_; rintro v w rfl hS) | (refine WL.callG rfl rfl (uint_e hu (hS.holds _ (List.Mem.tail _ (List.Mem.head _))) (hS.inB_of (List.Mem.tail _ (List.Mem.head _))) (by omega) (by omega)) rfl rfl rfl ?_; rintro v w ⟨rfl, hmut⟩; have hS := hS.mut hmut (.there .here); clear hmut) | (refine WL.shr rfl rfl rfl (by decide) rfl rfl rfl ?_; rw [hsh]) | (refine WL.callL (D := [sbC sb (pcText base done) fp]) hS Pu rfl rfl (fun hI => blen_c sb _ fp _ hI) rfl rfl rfl ?_; rintro v w ⟨rfl, fp2, hmu⟩ hS; replace hS := hS _ hmu; clear hmu) | (refine WL.midS (i := p + u) (j := p + u + s.length) rfl rfl rfl (vint (show _ = ((p + u : Nat) : Int) by omega)) (vint (show _ = ((p + u + s.length : Nat) : Int) by omega)) (by omega) (by omega) rfl rfl rfl ?_; rw [hcut]) | (refine WL.callL (D := [sbC sb (pcText base done) fp2]) hS Pu rfl rfl (fun hI => bwrites_c sb _ s fp2 _ hI.head hI.headB (by omega)) rfl rfl rfl ?_; rintro v w ⟨rfl, fp3, hmu⟩ hS; rw [hsn] at hmu; replace hS := hS _ (.of1 hmu); clear hmu) | (refine WL.lowS (j := p + u + s.length) rfl rfl rfl (vint (show _ = ((p + u + s.length : Nat) : Int) by omega)) (by omega) rfl rfl rfl ?_; rw [hd3]) | (refine WL.callG rfl rfl (wnew_c (pcBytes rest) _) rfl rfl rfl ?_; rintro v w ⟨hup, r2, rfl, hnew⟩; have hS := hS.new hup hnew; clear hup hnew) | ((fail_if_success (refine WL.wanted rfl ?_)); refine WL.guard rfl rfl rfl (fun h => ?_) (fun h => ?_) <;> (try simp only [ZZ0, ZZ1, ZZ2, ZZ3, ZZ4, ZZ5, ZZ6, ZZ7, ZZ8, ZZ9, ZZ10, ZZ11, ZZ12, ZZ13, ZZ14, ZZ15] at h) <;> (try (exfalso; first | omega | contradiction)))) | (show WC _ _ _ _ _ _; first | refine WC.seq ?_ | refine WC.region ?_ | refine WC.block ?_ | refine WC.skip ?_ | refine WC.exit ?_ | refine WC.condF rfl (by decide) ?_ | refine WC.condT rfl (decide_eq_true (by first | with_reducible assumption | omega)) ?_ | refine WC.condF rfl (decide_eq_false (by first | with_reducible assumption | omega)) ?_) | refine seqQ_n ?_ | refine seqQ_x ?_ | refine blkQ_hit rfl ?_)
      exact rndQ_n (done ++ [.ins s], rest, pcBytes rest, r2, 0, fp3) ⟨hap2, hS.droplast2 (D := [sbC sb (pcText base (done ++ [.ins s])) fp3, rdC r2 (pcBytes rest) 0]) Pu⟩ (Nat.lt_succ_self _) ⟨rfl, rfl, trivial⟩ ⟨rfl, rfl, rfl, trivial⟩
    · have hxp : 0 < k := hxp
      have hok : 0 < k ∧ i + k ≤ base.length := hok
      obtain ⟨_, hik⟩ := hok
      have hlt : (pcText base done).length + (k + (pcText base rest).length) = text.length := hlt
      have hat : d.drop p = putN (2 * k + 1) ++ putN i ++ pcBytes rest := hat
      rw [List.append_assoc] at hat
      have hu : uintE (d.drop p) = (2 * k + 1, (putN (2 * k + 1)).length, 0) := by rw [hat]; exact uintE_put _ (by omega) _
      have hbl : (Pc.bytes (.cpy i k)).length = (putN (2 * k + 1)).length + (putN i).length := List.length_append
      rw [hbl] at hld
      have hd2 : d.drop (p + (putN (2 * k + 1)).length) = putN i ++ pcBytes rest := by rw [← List.drop_drop, hat, List.drop_left]
      have hu2 : uintE (d.drop (p + (putN (2 * k + 1)).length)) = (i, (putN i).length, 0) := by rw [hd2]; exact uintE_put _ (by omega) _
      have hd3 : d.drop (p + (putN (2 * k + 1)).length + (putN i).length) = pcBytes rest := by rw [← List.drop_drop, hd2, List.drop_left]
      have hcut : (base.take (i + k)).drop i = (base.drop i).take k := by rw [List.drop_take, Nat.add_sub_cancel_left]
      have hxs : ((base.drop i).take k).length = k := hxs
      have hap2 : App base text 262144 (done ++ [.cpy i k]) rest d (p + (putN (2 * k + 1)).length + (putN i).length) := ⟨hoks, by rw [pcText_snoc, ← htx, List.append_assoc], by omega, hd3, hsz⟩
      have hsn : pcText base done ++ (base.drop i).take k = pcText base (done ++ [.cpy i k]) := by rw [pcText_snoc]; rfl
      have hsh : shrI .i64 ((2 * k + 1 : Nat) : Int) 1 = ((k : Nat) : Int) := (shrI_nat .i64 (2 * k + 1) 1 (by decide)).trans (by omega)
      have han : bits .and .i64 ((2 * k + 1 : Nat) : Int) 1 = 1 := by rw [i64_and1 (by omega)]; omega
      have hpp : 0 < (putN i).length := List.length_pos_iff.2 (putN_ne i)
      clear hat htx hoks hd2
      generalize (putN (2 * k + 1)).length = u at *
      generalize (putN i).length = u2 at *
      generalize (base.drop i).take k = s at *
      repeat' (first | (show WL _ _ _ _ _ _ _; first | refine WL.pure rfl rfl rfl rfl ?_ | refine WL.nil ?_ | refine WL.add rfl rfl rfl (by omega) rfl rfl rfl ?_ | refine WL.sub rfl rfl rfl (by omega) rfl rfl rfl ?_ | (refine WL.calls hS rfl rfl (left_c r d p _ (hS.holds _ (List.Mem.tail _ (List.Mem.head _))) (by omega) (by omega)) rfl rfl rfl ?_; rintro v w rfl hS) | (refine WL.callG rfl rfl (uint_e hu (hS.holds _ (List.Mem.tail _ (List.Mem.head _))) (hS.inB_of (List.Mem.tail _ (List.Mem.head _))) (by omega) (by omega)) rfl rfl rfl ?_; rintro v w ⟨rfl, hmut⟩; have hS := hS.mut hmut (.there .here); clear hmut) | (refine WL.callG rfl rfl (uint_e hu2 (hS.holds _ (List.Mem.tail _ (List.Mem.head _))) (hS.inB_of (List.Mem.tail _ (List.Mem.head _))) (by omega) (by omega)) rfl rfl rfl ?_; rintro v w ⟨rfl, hmut⟩; have hS := hS.mut hmut (.there .here); clear hmut) | (refine WL.shr rfl rfl rfl (by decide) rfl rfl rfl ?_; rw [hsh]) | (refine WL.callL (D := [sbC sb (pcText base done) fp]) hS Pu rfl rfl (fun hI => blen_c sb _ fp _ hI) rfl rfl rfl ?_; rintro v w ⟨rfl, fp2, hmu⟩ hS; replace hS := hS _ hmu; clear hmu) | (refine WL.midS (i := i) (j := i + k) rfl rfl rfl rfl (vint (show _ = ((i + k : Nat) : Int) by omega)) (by omega) (by omega) rfl rfl rfl ?_; rw [hcut]) | (refine WL.callL (D := [sbC sb (pcText base done) fp2]) hS Pu rfl rfl (fun hI => bwrites_c sb _ s fp2 _ hI.head hI.headB (by omega)) rfl rfl rfl ?_; rintro v w ⟨rfl, fp3, hmu⟩ hS; rw [hsn] at hmu; replace hS := hS _ (.of1 hmu); clear hmu) | ((fail_if_success (refine WL.wanted rfl ?_)); refine WL.guard rfl rfl rfl (fun h => ?_) (fun h => ?_) <;> (try simp only [ZZ0, ZZ1, ZZ2, ZZ3, ZZ4, ZZ5, ZZ6, ZZ7, ZZ8, ZZ9, ZZ10, ZZ11, ZZ12, ZZ13, ZZ14, ZZ15] at h) <;> (try (exfalso; first | omega | contradiction)))) | (show WC _ _ _ _ _ _; first | refine WC.seq ?_ | refine WC.region ?_ | refine WC.block ?_ | refine WC.skip ?_ | refine WC.condF rfl (by decide) ?_ | refine WC.condT rfl (decide_eq_true (by first | with_reducible assumption | omega)) ?_ | refine WC.condF rfl (decide_eq_false (by first | with_reducible assumption | omega)) ?_) | refine seqQ_n ?_ | refine blkQ_n ?_)
      exact rndQ_n (done ++ [.cpy i k], rest, d, r, p + u + u2, fp3) ⟨hap2, hS.droplast2 (D := [sbC sb (pcText base (done ++ [.cpy i k])) fp3, rdC r d (p + u + u2)]) Pu⟩ (Nat.lt_succ_self _) ⟨rfl, rfl, trivial⟩ ⟨rfl, rfl, rfl, trivial⟩
end Go.Proofs.YtobfdeiimnnanaaGreatDoor

/- What is proved: versions of contents, in plain lists. Conditions: as each names them. -/
namespace Go.Proofs.YtobfdeiimnnanaaGreatDoor
open Go Go.J Go.RowKit
open Go.Lib (decDigits)
structure Ver where
  id : Nat
  base : Nat
  pay : List UInt8
  data : List UInt8
def verK (id : Int) : List UInt8 := [118, 47] ++ Lib.itoa id
abbrev Ver.key (v : Ver) : List UInt8 := verK (v.id : Int)
def valC (base : Nat) (pay : List UInt8) : List UInt8 := putN base ++ textE pay
abbrev Ver.val (v : Ver) : List UInt8 := valC v.base v.pay
def nextK : List UInt8 := [110, 101, 120, 116]
def findC (vs : List Ver) (id : Int) : Option Ver := vs.find? fun v => decide ((v.id : Int) = id)
def Told (vs : List Ver) : Nat → Nat → Prop
  | 0, id => ∃ v ∈ vs, v.id = id ∧ v.base = 0
  | d + 1, id => ∃ v ∈ vs, v.id = id ∧ v.base ≠ 0 ∧ Told vs d v.base
def LayOk (vs : List Ver) (near : Nat) (data : List UInt8) (base : Nat) (pay : List UInt8) : Prop :=
  base = 0 ∧ pay = data ∨ base = near ∧ near ≠ 0 ∧ data.length ≤ 4096 ∧ pay.length < data.length ∧ (∃ d, d < 4 ∧ Told vs d near) ∧ ∃ u ∈ vs, u.id = near ∧ ∃ ps, pay = deltaE data.length ps ∧ DeltaOf u.data data ps
structure ChIs (rows : Rws) (m : Bch) (vs : List Ver) (N : Nat) : Prop where
  rnd : (rows.map Prod.fst).Nodup
  mnd : (m.map Prod.fst).Nodup
  has : ∀ v ∈ vs, bgetE rows m v.key = (v.val, true)
  only : ∀ k, (bgetE rows m k).2 = true → begB [118, 47] k = true → ∃ v ∈ vs, v.key = k
  blank : ∀ k, (bgetE rows m k).2 = false → (bgetE rows m k).1 = []
  next : bgetE rows m nextK = (if N = 0 then [] else putN N, decide (N ≠ 0))
  ids : ∀ v ∈ vs, 1 ≤ v.id ∧ v.id ≤ N
  srt : (vs.map Ver.id).Pairwise (· < ·)
  told : ∀ v ∈ vs, ∃ d, d ≤ 4 ∧ Told vs d v.id
  whole : ∀ v ∈ vs, v.base = 0 → v.pay = v.data
  by_ : ∀ v ∈ vs, v.base ≠ 0 → v.base < v.id ∧ v.data.length ≤ 4096 ∧ v.pay.length < v.data.length ∧ ∃ u ∈ vs, u.id = v.base ∧ ∃ ps, v.pay = deltaE v.data.length ps ∧ DeltaOf u.data v.data ps
  size : ∀ v ∈ vs, v.data.length ≤ 549755813888
theorem itoa_pos {a : Int} {b : Nat} (hb : 1 ≤ b) (h : Lib.itoa a = Lib.itoa (b : Int)) : a = b := by
  rw [itoa_nat] at h
  unfold Lib.itoa at h
  split at h
  · have hd := dec_dig b
    rw [← h] at hd
    simp [digB] at hd
  · rename_i h1
    have h2 := dec_inj h
    omega
theorem verK_inj {a : Int} {b : Nat} (hb : 1 ≤ b) (h : verK a = verK (b : Int)) : a = b := itoa_pos hb (List.append_cancel_left h)
theorem verK_beg (id : Int) : begB [118, 47] (verK id) = true := rfl
theorem nd_id {vs : List Ver} (h : (vs.map Ver.id).Nodup) {x y : Ver} (hx : x ∈ vs) (hy : y ∈ vs) (e : x.id = y.id) : x = y := by
  induction vs with
  | nil => cases hx
  | cons a l ih =>
    simp only [List.map_cons, List.nodup_cons] at h
    rcases List.mem_cons.1 hx with hx1 | hx1 <;> rcases List.mem_cons.1 hy with hy1 | hy1
    · rw [hx1, hy1]
    · exact absurd (List.mem_map.2 ⟨y, hy1, by rw [← e, hx1]⟩ : _ ∈ l.map _) h.1
    · exact absurd (List.mem_map.2 ⟨x, hx1, by rw [e, hy1]⟩ : _ ∈ l.map _) h.1
    · exact ih h.2 hx1 hy1
section
variable {rows : Rws} {m : Bch} {vs : List Ver} {N : Nat}
theorem ChIs.nd (h : ChIs rows m vs N) : (vs.map Ver.id).Nodup := h.srt.imp fun hab e => absurd e (Nat.ne_of_lt hab)
theorem findC_some {id : Int} {v : Ver} (h : findC vs id = some v) : v ∈ vs ∧ (v.id : Int) = id := ⟨List.mem_of_find?_eq_some h, by have := List.find?_some h; simpa using this⟩
theorem findC_of (hn : (vs.map Ver.id).Nodup) {v : Ver} (hv : v ∈ vs) : findC vs (v.id : Int) = some v := by
  unfold findC
  cases hf : vs.find? fun x => decide ((x.id : Int) = (v.id : Int)) with
  | none => exact absurd rfl (by simpa using (List.find?_eq_none.1 hf) v hv : ¬ v.id = v.id)
  | some y =>
    have h2 := List.find?_some hf
    have h2 : (y.id : Int) = v.id := by simpa using h2
    have h1 : y.id = v.id := by omega
    rw [nd_id hn (List.mem_of_find?_eq_some hf) hv h1]
theorem ChIs.get_some (h : ChIs rows m vs N) {id : Int} {v : Ver} (hf : findC vs id = some v) : bgetE rows m (verK id) = (v.val, true) ∧ 1 ≤ id := by
  obtain ⟨hv, rfl⟩ := findC_some hf
  exact ⟨h.has v hv, by have := h.ids v hv; omega⟩
theorem ChIs.get_none (h : ChIs rows m vs N) {id : Int} (hf : findC vs id = none) : (bgetE rows m (verK id)).2 = false := by
  cases h2 : (bgetE rows m (verK id)).2 with
  | false => rfl
  | true =>
    obtain ⟨v, hv, e⟩ := h.only _ h2 rfl
    have := verK_inj (h.ids v hv).1 e.symm
    exact absurd (List.find?_eq_none.1 hf v hv) (by simp [this])
theorem Told.mono {vs vs' : List Ver} (h : ∀ v ∈ vs, v ∈ vs') : ∀ {d id : Nat}, Told vs d id → Told vs' d id
  | 0, _, ⟨v, hv, e, h0⟩ => ⟨v, h v hv, e, h0⟩
  | d + 1, _, ⟨v, hv, e, h0, ht⟩ => ⟨v, h v hv, e, h0, Told.mono h ht⟩
theorem Told.mem {vs : List Ver} : ∀ {d id : Nat}, Told vs d id → ∃ v ∈ vs, v.id = id
  | 0, _, ⟨v, hv, e, _⟩ => ⟨v, hv, e⟩
  | _ + 1, _, ⟨v, hv, e, _, _⟩ => ⟨v, hv, e⟩
theorem Told.unique {vs : List Ver} (hn : (vs.map Ver.id).Nodup) : ∀ {d e id : Nat}, Told vs d id → Told vs e id → d = e
  | 0, 0, _, _, _ => rfl
  | 0, e + 1, _, ⟨v, hv, e1, h0⟩, ⟨u, hu, e2, h1, _⟩ => by have := nd_id hn hv hu (e1.trans e2.symm); subst this; exact absurd h0 h1
  | d + 1, 0, _, ⟨v, hv, e1, h0, _⟩, ⟨u, hu, e2, h1⟩ => by have := nd_id hn hv hu (e1.trans e2.symm); subst this; exact absurd h1 h0
  | d + 1, e + 1, _, ⟨v, hv, e1, _, h0⟩, ⟨u, hu, e2, _, h1⟩ => by have := nd_id hn hv hu (e1.trans e2.symm); subst this; rw [Told.unique hn h0 h1]
theorem blank_noted (h : ∀ k, (bgetE rows m k).2 = false → (bgetE rows m k).1 = []) {o : Chg} (ho : o.gone = true → o.val = []) : ∀ k, (bgetE rows (noteE m o) k).2 = false → (bgetE rows (noteE m o) k).1 = [] := fun k hk => by
  rw [bgetE_noted] at hk ⊢
  split
  · rename_i e
    rw [if_pos e] at hk
    exact ho (by simpa using hk)
  · rename_i e
    rw [if_neg e] at hk
    exact h k hk
theorem ChIs.num (h : ChIs rows m vs N) : ChIs rows (noteE m ⟨nextK, putN (N + 1), false⟩) vs (N + 1) := by
  have hne : ∀ v : Ver, v.key ≠ nextK := fun v e => by
    have := congrArg (List.take 1) e
    exact absurd this (by show ([118] : List UInt8) ≠ [110]; decide)
  refine ⟨h.rnd, note_nd h.mnd _, fun v hv => ?_, fun k hk hb => ?_, blank_noted h.blank (by simp), ?_, fun v hv => ?_, h.srt, h.told, h.whole, h.by_, h.size⟩
  · rw [bgetE_noted, if_neg (hne v)]; exact h.has v hv
  · rw [bgetE_noted, if_neg] at hk
    · exact h.only k hk hb
    · intro e
      rw [e] at hb
      exact absurd (show begB [118, 47] nextK = true from hb) (by decide)
  · rw [bgetE_noted, if_pos rfl]
    simp
  · have := h.ids v hv; omega
theorem ChIs.come (h : ChIs rows m vs N) {id base near : Nat} {pay data : List UInt8} (h1 : 1 ≤ id) (h2 : id ≤ N) (hn : ∀ v ∈ vs, v.id < id) (hl : LayOk vs near data base pay) (hs : data.length ≤ 549755813888) :
    ChIs rows (noteE m ⟨verK (id : Int), valC base pay, false⟩) (vs ++ [⟨id, base, pay, data⟩]) N := by
  have mem : ∀ {y : Ver}, y ∈ vs ++ [⟨id, base, pay, data⟩] → y ∈ vs ∨ y = ⟨id, base, pay, data⟩ := fun {y} hy => by simpa using hy
  have hk : ∀ v ∈ vs, v.key ≠ verK (id : Int) := fun v hv e => by
    have := verK_inj h1 e
    have := hn v hv
    omega
  have hsub : ∀ v ∈ vs, v ∈ vs ++ [⟨id, base, pay, data⟩] := fun v hv => List.mem_append_left _ hv
  have hnew : (⟨id, base, pay, data⟩ : Ver) ∈ vs ++ [⟨id, base, pay, data⟩] := List.mem_append_right _ (List.mem_singleton.2 rfl)
  refine ⟨h.rnd, note_nd h.mnd _, fun v hv => ?_, fun k hk2 hb => ?_, blank_noted h.blank (by simp), ?_, fun v hv => ?_, ?_, fun v hv => ?_, fun v hv h0 => ?_, fun v hv h0 => ?_, fun v hv => ?_⟩
  · rw [bgetE_noted]
    rcases mem hv with hv | rfl
    · rw [if_neg (hk v hv)]; exact h.has v hv
    · rw [if_pos rfl]; rfl
  · rw [bgetE_noted] at hk2
    split at hk2
    · rename_i e; exact ⟨_, hnew, e.symm⟩
    · obtain ⟨v, hv, e⟩ := h.only k hk2 hb
      exact ⟨v, hsub v hv, e⟩
  · rw [bgetE_noted, if_neg]
    · exact h.next
    · intro e
      have := congrArg (List.take 1) e
      exact absurd this (by show ([110] : List UInt8) ≠ [118]; decide)
  · rcases mem hv with hv | rfl
    · exact h.ids v hv
    · exact ⟨h1, h2⟩
  · rw [List.map_append, List.pairwise_append]
    refine ⟨h.srt, by simp, fun a ha b hb => ?_⟩
    obtain ⟨v, hv, rfl⟩ := List.mem_map.1 ha
    rw [List.map_singleton, List.mem_singleton] at hb
    subst hb
    exact hn v hv
  · rcases mem hv with hv | rfl
    · obtain ⟨d, hd, ht⟩ := h.told v hv
      exact ⟨d, hd, ht.mono hsub⟩
    · rcases hl with ⟨hl, _⟩ | ⟨rfl, hl, _, _, ⟨d, hd, ht⟩, _⟩
      · exact ⟨0, by omega, _, hnew, rfl, hl⟩
      · exact ⟨d + 1, by omega, _, hnew, rfl, hl, ht.mono hsub⟩
  · rcases mem hv with hv | rfl
    · exact h.whole v hv h0
    · rcases hl with ⟨_, hl⟩ | ⟨rfl, hl, _⟩
      · exact hl
      · exact absurd h0 hl
  · rcases mem hv with hv | rfl
    · obtain ⟨a, b, c, u, hu, d⟩ := h.by_ v hv h0
      exact ⟨a, b, c, u, hsub u hu, d⟩
    · rcases hl with ⟨hl, _⟩ | ⟨rfl, _, a, b, _, u, hu, d⟩
      · exact absurd hl h0
      · exact ⟨(by have h7 := hn u hu; have h8 := d.1; show base < id; omega), a, b, u, hsub u hu, d⟩
  · rcases mem hv with hv | rfl
    · exact h.size v hv
    · exact hs
end
end Go.Proofs.YtobfdeiimnnanaaGreatDoor

/- What is proved: versions that are told otherwise, and that go; in plain lists. Conditions: as each names them. -/
namespace Go.Proofs.YtobfdeiimnnanaaGreatDoor
open Go Go.J Go.RowKit
open Go.Lib (decDigits)
structure Grew (m m' : Bch) (n s : Nat) : Prop where
  len : m'.length ≤ m.length + n
  sz : szL (m'.map Prod.snd) ≤ szL (m.map Prod.snd) + s
  ok : BchOk m → BchOk m'
theorem Grew.refl (m : Bch) : Grew m m 0 0 := ⟨Nat.le_refl _, Nat.le_refl _, id⟩
theorem Grew.note {m m' : Bch} {n s : Nat} (h : Grew m m' n s) {o : Chg} {k : Nat} (hk : szO o ≤ k) (ho : o.gone = true → o.val = []) : Grew m (noteE m' o) (n + 1) (s + k) := by
  have h1 := szB_note m' o
  refine ⟨by have := h.len; omega, by have := h.sz; omega, fun hb => ?_⟩
  obtain ⟨key, val, gone⟩ := o
  cases gone with
  | false => exact (h.ok hb).note ⟨key, val, false⟩
  | true =>
    have hv : val = [] := ho rfl
    subst hv
    exact (h.ok hb).note ⟨key, [], true⟩
theorem Grew.up {m m' : Bch} {n s n' s' : Nat} (h : Grew m m' n s) (hn : n ≤ n') (hs : s ≤ s') : Grew m m' n' s' := ⟨by have := h.len; omega, by have := h.sz; omega, h.ok⟩
structure Rew (dat : List (Nat × List UInt8)) (m m' : Bch) : Prop where
  frame : ∀ (rows : Rws) (k : List UInt8), k.take 2 ≠ [118, 47] → k ≠ nextK → bgetE rows m' k = bgetE rows m k
  ents : ∀ p ∈ m', p ∈ m ∨ (p.1 = nextK ∧ szO p.2 ≤ 100) ∨ ∃ x ∈ dat, p.1 = verK (x.1 : Int) ∧ szO p.2 ≤ x.2.length + 100
section
variable {dat dat' : List (Nat × List UInt8)} {m m' m2 : Bch}
theorem Rew.refl (dat : List (Nat × List UInt8)) (m : Bch) : Rew dat m m := ⟨fun _ _ _ _ => rfl, fun p hp => .inl hp⟩
theorem Rew.mono (h : Rew dat m m') (hs : ∀ x ∈ dat, x ∈ dat') : Rew dat' m m' := ⟨h.frame, fun p hp => by
  rcases h.ents p hp with h1 | h1 | ⟨x, hx, h1⟩
  · exact .inl h1
  · exact .inr (.inl h1)
  · exact .inr (.inr ⟨x, hs x hx, h1⟩)⟩
theorem Rew.trans (h : Rew dat m m') (h' : Rew dat m' m2) : Rew dat m m2 := ⟨fun rows k h1 h2 => (h'.frame rows k h1 h2).trans (h.frame rows k h1 h2), fun p hp => by
  rcases h'.ents p hp with h1 | h1
  · exact h.ents p h1
  · exact .inr h1⟩
theorem Rew.num (h : Rew dat m m') {v : List UInt8} (hv : v.length ≤ 60) : Rew dat m (noteE m' ⟨nextK, v, false⟩) := ⟨fun rows k h1 h2 => by
  rw [bgetE_noted, if_neg h2]
  exact h.frame rows k h1 h2, fun p hp => by
  rcases mset_mem hp with hp | rfl
  · exact h.ents p hp
  · refine .inr (.inl ⟨rfl, ?_⟩)
    unfold szO
    show 4 + v.length + 32 ≤ 100
    omega⟩
theorem Rew.ver (h : Rew dat m m') {id : Nat} {data v : List UInt8} {g : Bool} (hx : (id, data) ∈ dat) (hs : szO ⟨verK (id : Int), v, g⟩ ≤ data.length + 100) : Rew dat m (noteE m' ⟨verK (id : Int), v, g⟩) := ⟨fun rows k h1 h2 => by
  rw [bgetE_noted, if_neg (fun e => h1 (by rw [e]; rfl))]
  exact h.frame rows k h1 h2, fun p hp => by
  rcases mset_mem hp with hp | rfl
  · exact h.ents p hp
  · exact .inr (.inr ⟨_, hx, rfl, hs⟩)⟩
end
def updC (vs : List Ver) (x : Ver) : List Ver := vs.map fun v => if v.id = x.id then x else v
def delC (vs : List Ver) (id : Nat) : List Ver := vs.filter fun v => decide (v.id ≠ id)
theorem mem_updC {vs : List Ver} {x v : Ver} (h : v ∈ updC vs x) : v = x ∨ v ∈ vs ∧ v.id ≠ x.id := by
  obtain ⟨u, hu, rfl⟩ := List.mem_map.1 h
  by_cases e : u.id = x.id
  · rw [if_pos e]; exact .inl rfl
  · rw [if_neg e]; exact .inr ⟨hu, e⟩
theorem updC_same {vs : List Ver} {x v : Ver} (h : v ∈ vs) (e : v.id ≠ x.id) : v ∈ updC vs x := List.mem_map.2 ⟨v, h, if_neg e⟩
theorem updC_new {vs : List Ver} {x y : Ver} (h : y ∈ vs) (e : y.id = x.id) : x ∈ updC vs x := List.mem_map.2 ⟨y, h, if_pos e⟩
theorem updC_ids (vs : List Ver) (x : Ver) : (updC vs x).map Ver.id = vs.map Ver.id := by
  unfold updC
  rw [List.map_map]
  exact List.map_congr_left fun v _ => by
    show Ver.id (if v.id = x.id then x else v) = v.id
    split
    · rename_i e; exact e.symm
    · rfl
def idData (v : Ver) : Nat × List UInt8 := (v.id, v.data)
theorem updC_data {vs : List Ver} {x y : Ver} (hn : (vs.map Ver.id).Nodup) (hy : y ∈ vs) (e : y.id = x.id) (ed : y.data = x.data) : (updC vs x).map idData = vs.map idData := by
  unfold updC
  rw [List.map_map]
  refine List.map_congr_left fun v hv => ?_
  show idData (if v.id = x.id then x else v) = idData v
  split
  · rename_i e2
    have := nd_id hn hv hy (e2.trans e.symm)
    subst this
    show (x.id, x.data) = (v.id, v.data)
    rw [e, ed]
  · rfl
section
variable {rows : Rws} {m : Bch} {vs : List Ver} {N : Nat}
theorem key_next (id : Int) : verK id ≠ nextK := fun e => by
  have := congrArg (List.take 1) e
  exact absurd this (by show ([118] : List UInt8) ≠ [110]; decide)
theorem ChIs.relay (h : ChIs rows m vs N) {x y : Ver} (hx : x ∈ vs) (hy : y ∈ vs) (hxy : x.base = y.id) {base : Nat} {pay : List UInt8} (hl : LayOk vs y.base x.data base pay) :
    ChIs rows (noteE m ⟨x.key, valC base pay, false⟩) (updC vs ⟨x.id, base, pay, x.data⟩) N := by
  obtain ⟨x', hx'⟩ : ∃ x' : Ver, x' = ⟨x.id, base, pay, x.data⟩ := ⟨_, rfl⟩
  have e1 : x'.id = x.id := by rw [hx']
  have e2 : x'.base = base := by rw [hx']
  have e3 : x'.pay = pay := by rw [hx']
  have e4 : x'.data = x.data := by rw [hx']
  rw [← hx']
  have hyi := (h.ids y hy).1
  have hxb : x.base ≠ 0 := by omega
  have hlt := (h.by_ x hx hxb).1
  have hnew : x' ∈ updC vs x' := updC_new hx e1.symm
  have hbr : ∀ u ∈ vs, ∃ u' ∈ updC vs x', u'.id = u.id ∧ u'.data = u.data := fun u hu => by
    by_cases e : u.id = x'.id
    · have := nd_id h.nd hu hx (e.trans e1)
      subst this
      exact ⟨x', hnew, e1, e4⟩
    · exact ⟨u, updC_same hu e, rfl, rfl⟩
  have hk : ∀ v ∈ vs, v.id ≠ x'.id → v.key ≠ x.key := fun v hv hne e => hne (by have := verK_inj (h.ids x hx).1 e; omega)
  have htold : ∀ d, ∀ id, Told vs d id → ∃ d', d' ≤ d ∧ Told (updC vs x') d' id := by
    intro d
    induction d using Nat.strongRecOn with
    | ind d ih =>
      intro id ht
      by_cases hid : id = x.id
      · subst hid
        rcases hl with ⟨hl, _⟩ | ⟨hb1, hb2, _, _, ⟨d0, hd0, ht0⟩, _⟩
        · exact ⟨0, Nat.zero_le _, x', hnew, e1, e2.trans hl⟩
        · cases d with
          | zero =>
            obtain ⟨v, hv, e, h0⟩ := ht
            have := nd_id h.nd hv hx e
            subst this
            exact absurd h0 hxb
          | succ d1 =>
            obtain ⟨v, hv, e, h0, ht1⟩ := ht
            have := nd_id h.nd hv hx e
            subst this
            rw [hxy] at ht1
            cases d1 with
            | zero =>
              obtain ⟨v2, hv2, e5, h5⟩ := ht1
              have := nd_id h.nd hv2 hy e5
              subst this
              exact absurd h5 hb2
            | succ d2 =>
              obtain ⟨v2, hv2, e5, h5, ht2⟩ := ht1
              have := nd_id h.nd hv2 hy e5
              subst this
              obtain ⟨d', hd', ht'⟩ := ih d2 (by omega) _ ht2
              exact ⟨d' + 1, by omega, x', hnew, e1, by rw [e2, hb1]; exact hb2, by rw [e2, hb1]; exact ht'⟩
      · cases d with
        | zero =>
          obtain ⟨v, hv, e, h0⟩ := ht
          exact ⟨0, Nat.le_refl _, v, updC_same hv (by rw [e, e1]; exact hid), e, h0⟩
        | succ d1 =>
          obtain ⟨v, hv, e, h0, ht1⟩ := ht
          obtain ⟨d', hd', ht'⟩ := ih d1 (by omega) _ ht1
          exact ⟨d' + 1, by omega, v, updC_same hv (by rw [e, e1]; exact hid), e, h0, ht'⟩
  refine ⟨h.rnd, note_nd h.mnd _, fun v hv => ?_, fun k hk2 hb => ?_, blank_noted h.blank (by simp), ?_, fun v hv => ?_, by rw [updC_ids]; exact h.srt, fun v hv => ?_, fun v hv h0 => ?_, fun v hv h0 => ?_, fun v hv => ?_⟩
  · rw [bgetE_noted]
    rcases mem_updC hv with rfl | ⟨hv, hne⟩
    · rw [if_pos (show verK (v.id : Int) = verK (x.id : Int) by rw [e1])]
      show (valC base pay, true) = (valC v.base v.pay, true)
      rw [e2, e3]
    · rw [if_neg (hk v hv hne)]; exact h.has v hv
  · rw [bgetE_noted] at hk2
    split at hk2
    · rename_i e; exact ⟨_, hnew, by rw [e]; show verK (x'.id : Int) = verK (x.id : Int); rw [e1]⟩
    · obtain ⟨v, hv, e⟩ := h.only k hk2 hb
      obtain ⟨u, hu, e5, _⟩ := hbr v hv
      exact ⟨u, hu, by rw [← e]; show verK (u.id : Int) = verK (v.id : Int); rw [e5]⟩
  · rw [bgetE_noted, if_neg (fun e => key_next _ e.symm)]; exact h.next
  · rcases mem_updC hv with rfl | ⟨hv, hne⟩
    · rw [e1]; exact h.ids x hx
    · exact h.ids v hv
  · rcases mem_updC hv with rfl | ⟨hv, hne⟩
    · rw [e1]
      obtain ⟨d, hd, ht⟩ := h.told x hx
      obtain ⟨d', hd', ht'⟩ := htold d _ ht
      exact ⟨d', by omega, ht'⟩
    · obtain ⟨d, hd, ht⟩ := h.told v hv
      obtain ⟨d', hd', ht'⟩ := htold d _ ht
      exact ⟨d', by omega, ht'⟩
  · rcases mem_updC hv with rfl | ⟨hv, hne⟩
    · rcases hl with ⟨_, hl⟩ | ⟨hb1, hb2, _⟩
      · rw [e3, e4]; exact hl
      · rw [e2, hb1] at h0; exact absurd h0 hb2
    · exact h.whole v hv h0
  · rcases mem_updC hv with rfl | ⟨hv, hne⟩
    · rcases hl with ⟨hl, _⟩ | ⟨hb1, hb2, h5, h6, _, u, hu, hui, hd⟩
      · rw [e2] at h0; exact absurd hl h0
      · obtain ⟨u', hu', e5, e6⟩ := hbr u hu
        have hlt2 := (h.by_ y hy hb2).1
        exact ⟨by omega, by rw [e4]; exact h5, by rw [e3, e4]; exact h6, u', hu', by rw [e5, e2, hb1]; exact hui, by rw [e3, e4, e6]; exact hd⟩
    · obtain ⟨h5, h6, h7, u, hu, hui, hd⟩ := h.by_ v hv h0
      obtain ⟨u', hu', e5, e6⟩ := hbr u hu
      exact ⟨h5, h6, h7, u', hu', e5.trans hui, by rw [e6]; exact hd⟩
  · rcases mem_updC hv with rfl | ⟨hv, hne⟩
    · rw [e4]; exact h.size x hx
    · exact h.size v hv
theorem ChIs.remove (h : ChIs rows m vs N) {id : Nat} (h1 : 1 ≤ id) (hno : ∀ v ∈ vs, v.base ≠ id) : ChIs rows (noteE m ⟨verK (id : Int), [], true⟩) (delC vs id) N := by
  have mem : ∀ {v : Ver}, v ∈ delC vs id ↔ v ∈ vs ∧ v.id ≠ id := fun {v} => by
    unfold delC; rw [List.mem_filter, decide_eq_true_eq]
  have hk : ∀ v ∈ vs, v.id ≠ id → v.key ≠ verK (id : Int) := fun v hv hne e => hne (by have := verK_inj h1 e; omega)
  have htold : ∀ d i, i ≠ id → Told vs d i → Told (delC vs id) d i := by
    intro d
    induction d with
    | zero => rintro i hi ⟨v, hv, e, h0⟩; exact ⟨v, mem.2 ⟨hv, by omega⟩, e, h0⟩
    | succ d ih => rintro i hi ⟨v, hv, e, h0, ht⟩; exact ⟨v, mem.2 ⟨hv, by omega⟩, e, h0, ih _ (hno v hv) ht⟩
  have hsub : (delC vs id).Sublist vs := List.filter_sublist
  refine ⟨h.rnd, note_nd h.mnd _, fun v hv => ?_, fun k hk2 hb => ?_, blank_noted h.blank (fun _ => rfl), ?_, fun v hv => h.ids v (mem.1 hv).1, h.srt.sublist (hsub.map _), fun v hv => ?_, fun v hv h0 => h.whole v (mem.1 hv).1 h0, fun v hv h0 => ?_, fun v hv => h.size v (mem.1 hv).1⟩
  · obtain ⟨hv, hne⟩ := mem.1 hv
    rw [bgetE_noted, if_neg (hk v hv hne)]; exact h.has v hv
  · rw [bgetE_noted] at hk2
    split at hk2
    · exact absurd hk2 (by simp)
    · rename_i hne
      obtain ⟨v, hv, e⟩ := h.only k hk2 hb
      exact ⟨v, mem.2 ⟨hv, fun e2 => hne (by rw [← e]; show verK (v.id : Int) = _; rw [e2])⟩, e⟩
  · rw [bgetE_noted, if_neg (fun e => key_next _ e.symm)]; exact h.next
  · obtain ⟨hv, hne⟩ := mem.1 hv
    obtain ⟨d, hd, ht⟩ := h.told v hv
    exact ⟨d, hd, htold d _ hne ht⟩
  · obtain ⟨hv, hne⟩ := mem.1 hv
    obtain ⟨h5, h6, h7, u, hu, hui, hd⟩ := h.by_ v hv h0
    exact ⟨h5, h6, h7, u, mem.2 ⟨hu, fun e => hno v hv (by omega)⟩, hui, hd⟩
theorem ChIs.keys (h : ChIs rows m vs N) : ∃ ns : List Nat, bkeysP rows m [118, 47] = ns.map (fun (n : Nat) => verK (n : Int)) ∧ ns.Perm (vs.map Ver.id) := by
  have h1 : (bkeysP rows m [118, 47]).Perm ((vs.map Ver.id).map fun (n : Nat) => verK (n : Int)) := by
    refine (List.perm_ext_iff_of_nodup (nodup_bkeys h.rnd h.mnd _) ?_).2 fun k => ?_
    · refine List.Pairwise.map _ (fun a b (hab : a ≠ b ∧ 1 ≤ b) e => hab.1 (by have := verK_inj hab.2 e; omega)) ?_
      refine h.nd.imp_of_mem fun {a b} _ hb hab => ⟨hab, ?_⟩
      obtain ⟨v, hv, rfl⟩ := List.mem_map.1 hb
      exact (h.ids v hv).1
    · rw [mem_bkeys h.mnd, List.mem_map]
      constructor
      · rintro ⟨a, b⟩
        obtain ⟨v, hv, rfl⟩ := h.only k a b
        exact ⟨v.id, List.mem_map.2 ⟨v, hv, rfl⟩, rfl⟩
      · rintro ⟨n, hn, rfl⟩
        obtain ⟨v, hv, rfl⟩ := List.mem_map.1 hn
        exact ⟨by rw [h.has v hv], rfl⟩
  refine ⟨(bkeysP rows m [118, 47]).map fun k => valE (k.drop 2), ?_, ?_⟩
  · rw [List.map_map]
    conv => lhs; rw [← List.map_id (bkeysP rows m [118, 47])]
    refine List.map_congr_left fun k hk => ?_
    obtain ⟨n, hn, rfl⟩ := List.mem_map.1 (h1.mem_iff.1 hk)
    show verK (n : Int) = verK ((valE ((([118, 47] : List UInt8) ++ Lib.itoa (n : Int)).drop 2) : Nat) : Int)
    have e : (([118, 47] : List UInt8) ++ Lib.itoa (n : Int)).drop 2 = Lib.itoa (n : Int) := rfl
    rw [e, itoa_nat, dec_val]
  · have h2 := h1.map fun k => valE (k.drop 2)
    rw [List.map_map] at h2
    refine h2.trans (List.Perm.of_eq ?_)
    conv => rhs; rw [← List.map_id (vs.map Ver.id)]
    refine List.map_congr_left fun n _ => ?_
    show valE ((([118, 47] : List UInt8) ++ Lib.itoa (n : Int)).drop 2) = n
    have e : (([118, 47] : List UInt8) ++ Lib.itoa (n : Int)).drop 2 = Lib.itoa (n : Int) := rfl
    rw [e, itoa_nat, dec_val]
end
end Go.Proofs.YtobfdeiimnnanaaGreatDoor

/- What is proved: how the package chain keeps and reads one version. Conditions: texts of bounded length; the library's table of powers laid. -/
namespace Go.Proofs.YtobfdeiimnnanaaGreatDoor
open Go Go.J Go.RowKit
open Go.Lib (decDigits)
set_option maxHeartbeats 4000000 in
set_option maxRecDepth 100000 in
theorem ckey_c (id : Int) (h0 : -9223372036854775808 ≤ id) (h1 : id ≤ 9223372036854775807) (w0 : World) (ht : powT w0) : Cal Tryz.prog 138 [.int .i64 id] w0 (fun v w' => Upd [] w0 w' ∧ v = str (verK id)) := by
  refine Cal.mk' (by kernel_rfl) Tryz.func138 rfl rfl fun hS => ?_
  have hl := Lib.itoa_length_le id h0 h1
  have e0 : ([118, 47] : List UInt8).length = 2 := rfl
  repeat' (first | (show WL _ _ _ _ _ _ _; first | refine WL.pure rfl rfl rfl rfl ?_ | refine WL.nil ?_ | (refine WL.calls hS rfl rfl (itoa_c id h0 h1 _ ht) rfl rfl rfl ?_; rintro v w rfl hS) | refine WL.cat rfl rfl rfl (by omega) rfl rfl rfl ?_) | (show WC _ _ _ _ _ _; first | refine WC.seq ?_ | refine WC.region ?_ | refine WC.ret ?_) | refine seqQ_n ?_)
  exact fin1r rfl rfl ⟨hS.upd, rfl⟩
theorem szV {id base : Nat} {pay : List UInt8} (h1 : id ≤ 1048576) (h2 : base ≤ 1048576) (h3 : pay.length ≤ 549755813888) : szO ⟨verK (id : Int), valC base pay, false⟩ ≤ pay.length + 100 := by
  have e1 := Lib.itoa_length_le (id : Int) (by omega) (by omega)
  have e2 := putN_len10 (n := base) (by omega)
  have e3 := putN_len10 (n := pay.length) (by omega)
  unfold szO verK valC textE
  simp only [List.length_append, List.length_cons, List.length_nil]
  omega
theorem szD {id : Nat} (h1 : id ≤ 1048576) : szO ⟨verK (id : Int), [], true⟩ ≤ 100 := by
  have e1 := Lib.itoa_length_le (id : Int) (by omega) (by omega)
  unfold szO verK
  simp only [List.length_append, List.length_cons, List.length_nil]
  omega
theorem LayOk.len {vs : List Ver} {near : Nat} {data : List UInt8} {base : Nat} {pay : List UInt8} (h : LayOk vs near data base pay) : pay.length ≤ data.length := by
  rcases h with ⟨_, rfl⟩ | ⟨_, _, _, h, _⟩
  · exact Nat.le_refl _
  · omega
theorem LayOk.base_le {rows : Rws} {m : Bch} {N : Nat} {vs : List Ver} (hc : ChIs rows m vs N) {near : Nat} {data : List UInt8} {base : Nat} {pay : List UInt8} (h : LayOk vs near data base pay) : base ≤ N := by
  rcases h with ⟨h, _⟩ | ⟨h, _, _, _, _, u, hu, hui, _⟩
  · omega
  · have := hc.ids u hu; omega
def loadV (vs : List Ver) (id : Int) : Value := match findC vs id with
  | some x => .tuple #[.int .i64 (x.base : Int), str x.pay, .bool true]
  | none => .tuple #[.int .i64 0, str [], .bool false]
theorem valC_uint {base : Nat} (pay : List UInt8) (h : base < 9223372036854775808) : uintE ((valC base pay).drop 0) = (base, (putN base).length, 0) := uintE_put base h (textE pay)
theorem valC_text {base : Nat} (pay : List UInt8) (h : pay.length < 9223372036854775808) : rtextE ((valC base pay).drop (0 + (putN base).length)) = (pay, pay.length + (putN pay.length).length, 0) := by
  unfold valC textE
  rw [Nat.zero_add, List.drop_left]
  have := rtextE_text pay [] h
  rwa [List.append_nil] at this
section
variable {B Tp q : Nat} {T : Tb} {m : Bch} {fb fp : List Nat} {vs : List Ver} {N : Nat} {w0 : World}
theorem ChIs.base_le {rows : Rws} (h : ChIs rows m vs N) (v : Ver) (hv : v ∈ vs) : v.base ≤ N := by
  by_cases h0 : v.base = 0
  · omega
  · have := (h.by_ v hv h0).1
    have := h.ids v hv
    omega
theorem ChIs.pay_len {rows : Rws} (h : ChIs rows m vs N) (v : Ver) (hv : v ∈ vs) : v.pay.length ≤ 549755813888 := by
  have hs := h.size v hv
  by_cases h0 : v.base = 0
  · rw [h.whole v hv h0]; exact hs
  · have := (h.by_ v hv h0).2.2.1
    omega
set_option maxHeartbeats 8000000 in
set_option maxRecDepth 100000 in
theorem cload_c (id : Int) (h0 : -9223372036854775808 ≤ id) (h1 : id ≤ 9223372036854775807) (hi : InL w0 [bchC B (some ⟨Tp, 0, none⟩) m fb, tabC Tp q T fp]) (hp : PowI w0 (fps [bchC B (some ⟨Tp, 0, none⟩) m fb, tabC Tp q T fp])) (hc : ChIs T.rows m vs N) (hN : N ≤ 1048576) :
    Cal Tryz.prog 136 [.pointer (some ⟨B, 0, none⟩), .int .i64 id] w0 (fun v w' => v = loadV vs id ∧ MutL w0 w' [bchC B (some ⟨Tp, 0, none⟩) m fb, tabC Tp q T fp] [bchC B (some ⟨Tp, 0, none⟩) m fb, tabC Tp q T fp]) := by
  refine Cal.mkL hi (by kernel_rfl) Tryz.func136 rfl rfl fun hS => ?_
  unfold loadV
  cases hf : findC vs id with
  | some x =>
    obtain ⟨hg, hpos⟩ := hc.get_some hf
    have hg : bgetE T.rows m (verK id) = (valC x.base x.pay, true) := hg
    obtain ⟨hx, hid⟩ := findC_some hf
    have hss := hc.size x hx
    have hb : x.base < 9223372036854775808 := by have := hc.base_le x hx; omega
    have hpl := hc.pay_len x hx
    have hu := valC_uint (base := x.base) x.pay hb
    have ht := valC_text (base := x.base) x.pay (by omega)
    have hvl : (valC x.base x.pay).length ≤ 549755813888 + 40 := by
      have h1 := putN_len10 (n := x.base) (by omega)
      have h2 := putN_len10 (n := x.pay.length) (by omega)
      unfold valC textE
      rw [List.length_append, List.length_append]
      omega
    have hul : (putN x.base).length ≤ (valC x.base x.pay).length := by unfold valC; simp
    clear hc hf
    dsimp only
    generalize x.base = base at *
    generalize x.pay = pay at *
    generalize valC base pay = s at *
    generalize (putN base).length = n at *
    repeat' (first | (show WL _ _ _ _ _ _ _; first | refine WL.pure rfl rfl rfl rfl ?_ | refine WL.nil ?_ | (refine WL.calls hS rfl rfl (ckey_c id h0 h1 _ (hp.at hS)) rfl rfl rfl ?_; rintro v w rfl hS) | (refine WL.callL (D := [bchC B (some ⟨Tp, 0, none⟩) m fb, tabC Tp q T fp]) hS Pu rfl rfl (fun hI => bget_c (verK id) hI) rfl rfl rfl ?_; rintro v w ⟨rfl, hmu⟩ hS; rw [hg]; replace hS := hS _ hmu; clear hmu) | (refine WL.callG rfl rfl (wnew_c s _) rfl rfl rfl ?_; rintro v w ⟨hu', r, rfl, hn⟩; replace hS := hS.new hu' hn; clear hu' hn) | (refine WL.callG rfl rfl (uint_e hu (hS.holds _ (List.Mem.head _)) (hS.inB_of (List.Mem.head _)) (Nat.zero_le _) (by omega)) rfl rfl rfl ?_; rintro v w ⟨rfl, hm⟩; replace hS := hS.mut hm .here; clear hm) | (refine WL.callG rfl rfl (rtext_e ht (hS.holds _ (List.Mem.head _)) (hS.inB_of (List.Mem.head _)) (by omega) (by omega)) rfl rfl rfl ?_; rintro v w ⟨rfl, hm⟩; replace hS := hS.mut hm .here; clear hm)) | (show WC _ _ _ _ _ _; first | refine WC.seq ?_ | refine WC.region ?_ | refine WC.ret ?_) | refine seqQ_n ?_)
    refine fin3r rfl rfl rfl rfl ⟨?_, hS.mutLp Pu⟩
    rw [decide_eq_true (show id > 0 by omega)]
  | none =>
    have hg := hc.get_none hf
    have hbl := hc.blank _ hg
    have hg : bgetE T.rows m (verK id) = ([], false) := Prod.ext hbl hg
    clear hc hf hbl
    repeat' (first | (show WL _ _ _ _ _ _ _; first | refine WL.pure rfl rfl rfl rfl ?_ | refine WL.nil ?_ | (refine WL.calls hS rfl rfl (ckey_c id h0 h1 _ (hp.at hS)) rfl rfl rfl ?_; rintro v w rfl hS) | (refine WL.callL (D := [bchC B (some ⟨Tp, 0, none⟩) m fb, tabC Tp q T fp]) hS Pu rfl rfl (fun hI => bget_c (verK id) hI) rfl rfl rfl ?_; rintro v w ⟨rfl, hmu⟩ hS; rw [hg]; replace hS := hS _ hmu; clear hmu) | (refine WL.callG rfl rfl (wnew_c [] _) rfl rfl rfl ?_; rintro v w ⟨hu', r, rfl, hn⟩; replace hS := hS.new hu' hn; clear hu' hn) | (refine WL.callG rfl rfl (uint_e (n := 0) (u := 0) (e := 2) rfl (hS.holds _ (List.Mem.head _)) (hS.inB_of (List.Mem.head _)) (Nat.zero_le _) (by decide)) rfl rfl rfl ?_; rintro v w ⟨rfl, hm⟩; replace hS := hS.mut hm .here; clear hm) | (refine WL.callG rfl rfl (rtext_e (u := 0) (t := []) (e := 2) rfl (hS.holds _ (List.Mem.head _)) (hS.inB_of (List.Mem.head _)) (Nat.zero_le _) (by decide)) rfl rfl rfl ?_; rintro v w ⟨rfl, hm⟩; replace hS := hS.mut hm .here; clear hm) | refine WL.skip rfl rfl rfl ?_) | (show WC _ _ _ _ _ _; first | refine WC.seq ?_ | refine WC.region ?_ | refine WC.ret ?_) | refine seqQ_n ?_)
    exact fin3r rfl rfl rfl rfl ⟨rfl, hS.mutLp Pu⟩
end
end Go.Proofs.YtobfdeiimnnanaaGreatDoor

/- What is proved: what Depth and Get of the package chain answer. Conditions: the library's table of powers laid. -/
namespace Go.Proofs.YtobfdeiimnnanaaGreatDoor
open Go Go.J Go.RowKit
section
variable {B Tp q : Nat} {T : Tb} {m : Bch} {fb fp : List Nat} {vs : List Ver} {N : Nat}
theorem loadV_none {id : Int} (h : findC vs id = none) : loadV vs id = .tuple #[.int .i64 0, str [], .bool false] := by unfold loadV; rw [h]
theorem loadV_of (hc : ChIs T.rows m vs N) {x : Ver} (hx : x ∈ vs) : loadV vs (x.id : Int) = .tuple #[.int .i64 (x.base : Int), str x.pay, .bool true] := by unfold loadV; rw [findC_of hc.nd hx]
set_option maxHeartbeats 8000000 in
set_option maxRecDepth 100000 in
theorem cdepthNo_c {w0 : World} (id : Int) (h0 : -9223372036854775808 ≤ id) (h1 : id ≤ 9223372036854775807) (hi : InL w0 [bchC B (some ⟨Tp, 0, none⟩) m fb, tabC Tp q T fp]) (hp : PowI w0 (fps [bchC B (some ⟨Tp, 0, none⟩) m fb, tabC Tp q T fp])) (hc : ChIs T.rows m vs N) (hN : N ≤ 1048576) (hf : findC vs id = none) :
    Cal Tryz.prog 177 [.pointer (some ⟨B, 0, none⟩), .int .i64 id] w0 (fun v w' => v = .int .i64 (-1) ∧ MutL w0 w' [bchC B (some ⟨Tp, 0, none⟩) m fb, tabC Tp q T fp] [bchC B (some ⟨Tp, 0, none⟩) m fb, tabC Tp q T fp]) := by
  refine Cal.mkL hi (by kernel_rfl) Tryz.func177 rfl rfl fun hS => ?_
  have hlv := loadV_none hf
  repeat' (first | (show WL _ _ _ _ _ _ _; first | refine WL.pure rfl rfl rfl rfl ?_ | refine WL.nil ?_ | (refine WL.callL (D := [bchC B (some ⟨Tp, 0, none⟩) m fb, tabC Tp q T fp]) hS Pu rfl rfl (fun hI => cload_c (vs := vs) (N := N) _ (by omega) (by omega) hI (hp.pull hS Pu) hc hN) rfl rfl rfl ?_; rintro v w ⟨rfl, hmu⟩ hS; rw [hlv]; replace hS := hS _ hmu; clear hmu)) | (show WC _ _ _ _ _ _; first | refine WC.seq ?_ | refine WC.region ?_ | refine WC.block ?_ | refine WC.ret ?_ | refine WC.condT rfl (by decide) ?_) | refine seqQ_n ?_ | refine seqQ_r ?_ | refine blkQ_r ?_)
  exact fin1r rfl rfl ⟨rfl, hS.mutLp Pu⟩
set_option maxHeartbeats 8000000 in
set_option maxRecDepth 100000 in
theorem cdepth_c : ∀ (d id : Nat) {w0 : World} (hi : InL w0 [bchC B (some ⟨Tp, 0, none⟩) m fb, tabC Tp q T fp]) (hp : PowI w0 (fps [bchC B (some ⟨Tp, 0, none⟩) m fb, tabC Tp q T fp])) (hc : ChIs T.rows m vs N) (hN : N ≤ 1048576) (hd : d ≤ 4) (ht : Told vs d id),
    Cal Tryz.prog 177 [.pointer (some ⟨B, 0, none⟩), .int .i64 (id : Int)] w0 (fun v w' => v = .int .i64 (d : Int) ∧ MutL w0 w' [bchC B (some ⟨Tp, 0, none⟩) m fb, tabC Tp q T fp] [bchC B (some ⟨Tp, 0, none⟩) m fb, tabC Tp q T fp])
  | 0, id, w0, hi, hp, hc, hN, hd, ht => by
    refine Cal.mkL hi (by kernel_rfl) Tryz.func177 rfl rfl fun hS => ?_
    obtain ⟨x, hx, rfl, hb0⟩ := ht
    have hlv := loadV_of hc hx
    have hid := hc.ids x hx
    rw [hb0] at hlv
    repeat' (first | (show WL _ _ _ _ _ _ _; first | refine WL.pure rfl rfl rfl rfl ?_ | refine WL.nil ?_ | (refine WL.callL (D := [bchC B (some ⟨Tp, 0, none⟩) m fb, tabC Tp q T fp]) hS Pu rfl rfl (fun hI => cload_c (vs := vs) (N := N) _ (by omega) (by omega) hI (hp.pull hS Pu) hc hN) rfl rfl rfl ?_; rintro v w ⟨rfl, hmu⟩ hS; rw [hlv]; replace hS := hS _ hmu; clear hmu)) | (show WC _ _ _ _ _ _; first | refine WC.seq ?_ | refine WC.region ?_ | refine WC.block ?_ | refine WC.ret ?_ | refine WC.condT rfl (by decide) ?_ | refine WC.condF rfl (by decide) ?_) | refine seqQ_n ?_ | refine seqQ_r ?_ | refine blkQ_r ?_)
    exact fin1r rfl rfl ⟨rfl, hS.mutLp Pu⟩
  | d + 1, id, w0, hi, hp, hc, hN, hd, ht => by
    refine Cal.mkL hi (by kernel_rfl) Tryz.func177 rfl rfl fun hS => ?_
    obtain ⟨x, hx, rfl, hb0, htd⟩ := ht
    have hlv := loadV_of hc hx
    have hid := hc.ids x hx
    have hbl := hc.base_le x hx
    generalize x.base = base at *
    generalize x.id = id at *
    repeat' (first | (show WL _ _ _ _ _ _ _; first | refine WL.pure rfl rfl rfl rfl ?_ | refine WL.nil ?_ | refine WL.add rfl rfl rfl (by omega) rfl rfl rfl ?_ | (refine WL.callL (D := [bchC B (some ⟨Tp, 0, none⟩) m fb, tabC Tp q T fp]) hS Pu rfl rfl (fun hI => cload_c (vs := vs) (N := N) _ (by omega) (by omega) hI (hp.pull hS Pu) hc hN) rfl rfl rfl ?_; rintro v w ⟨rfl, hmu⟩ hS; rw [hlv]; replace hS := hS _ hmu; clear hmu) | (refine WL.callL (D := [bchC B (some ⟨Tp, 0, none⟩) m fb, tabC Tp q T fp]) hS Pu rfl rfl (fun hI => cdepth_c d base hI (hp.pull hS Pu) hc hN (by omega) htd) rfl rfl rfl ?_; rintro v w ⟨rfl, hmu⟩ hS; replace hS := hS _ hmu; clear hmu)) | (show WC _ _ _ _ _ _; first | refine WC.seq ?_ | refine WC.region ?_ | refine WC.block ?_ | refine WC.skip ?_ | refine WC.ret ?_ | refine WC.condF rfl (by decide) ?_ | refine WC.condF rfl (decide_eq_false (by first | with_reducible assumption | omega)) ?_) | refine seqQ_n ?_ | refine blkQ_n ?_)
    exact fin1r rfl rfl ⟨vint (by omega), hS.mutLp Pu⟩
set_option maxHeartbeats 8000000 in
set_option maxRecDepth 100000 in
theorem cgetNo_c {w0 : World} (id : Int) (h0 : -9223372036854775808 ≤ id) (h1 : id ≤ 9223372036854775807) (hi : InL w0 [bchC B (some ⟨Tp, 0, none⟩) m fb, tabC Tp q T fp]) (hp : PowI w0 (fps [bchC B (some ⟨Tp, 0, none⟩) m fb, tabC Tp q T fp])) (hc : ChIs T.rows m vs N) (hN : N ≤ 1048576) (hf : findC vs id = none) :
    Cal Tryz.prog 135 [.pointer (some ⟨B, 0, none⟩), .int .i64 id] w0 (fun v w' => v = .tuple #[str [], .int .i64 11] ∧ MutL w0 w' [bchC B (some ⟨Tp, 0, none⟩) m fb, tabC Tp q T fp] [bchC B (some ⟨Tp, 0, none⟩) m fb, tabC Tp q T fp]) := by
  refine Cal.mkL hi (by kernel_rfl) Tryz.func135 rfl rfl fun hS => ?_
  have hlv := loadV_none hf
  repeat' (first | (show WL _ _ _ _ _ _ _; first | refine WL.pure rfl rfl rfl rfl ?_ | refine WL.nil ?_ | (refine WL.callL (D := [bchC B (some ⟨Tp, 0, none⟩) m fb, tabC Tp q T fp]) hS Pu rfl rfl (fun hI => cload_c (vs := vs) (N := N) _ (by omega) (by omega) hI (hp.pull hS Pu) hc hN) rfl rfl rfl ?_; rintro v w ⟨rfl, hmu⟩ hS; rw [hlv]; replace hS := hS _ hmu; clear hmu)) | (show WC _ _ _ _ _ _; first | refine WC.seq ?_ | refine WC.region ?_ | refine WC.ret ?_ | refine WC.condT rfl (by decide) ?_) | refine seqQ_n ?_ | refine seqQ_r ?_)
  exact fin2r rfl rfl rfl ⟨rfl, hS.mutLp Pu⟩
set_option maxHeartbeats 8000000 in
set_option maxRecDepth 100000 in
theorem cget_c : ∀ (d : Nat) (x : Ver) {w0 : World} (hi : InL w0 [bchC B (some ⟨Tp, 0, none⟩) m fb, tabC Tp q T fp]) (hp : PowI w0 (fps [bchC B (some ⟨Tp, 0, none⟩) m fb, tabC Tp q T fp])) (hc : ChIs T.rows m vs N) (hN : N ≤ 1048576) (hx : x ∈ vs) (ht : Told vs d x.id),
    Cal Tryz.prog 135 [.pointer (some ⟨B, 0, none⟩), .int .i64 (x.id : Int)] w0 (fun v w' => v = .tuple #[str x.data, .int .i64 0] ∧ MutL w0 w' [bchC B (some ⟨Tp, 0, none⟩) m fb, tabC Tp q T fp] [bchC B (some ⟨Tp, 0, none⟩) m fb, tabC Tp q T fp])
  | 0, x, w0, hi, hp, hc, hN, hx, ht => by
    refine Cal.mkL hi (by kernel_rfl) Tryz.func135 rfl rfl fun hS => ?_
    obtain ⟨y, hy, hyx, hb0⟩ := ht
    obtain rfl := nd_id hc.nd hy hx hyx
    have hlv := loadV_of hc hx
    have hid := hc.ids y hx
    rw [hb0, hc.whole y hx hb0] at hlv
    repeat' (first | (show WL _ _ _ _ _ _ _; first | refine WL.pure rfl rfl rfl rfl ?_ | refine WL.nil ?_ | (refine WL.callL (D := [bchC B (some ⟨Tp, 0, none⟩) m fb, tabC Tp q T fp]) hS Pu rfl rfl (fun hI => cload_c (vs := vs) (N := N) _ (by omega) (by omega) hI (hp.pull hS Pu) hc hN) rfl rfl rfl ?_; rintro v w ⟨rfl, hmu⟩ hS; rw [hlv]; replace hS := hS _ hmu; clear hmu)) | (show WC _ _ _ _ _ _; first | refine WC.seq ?_ | refine WC.region ?_ | refine WC.skip ?_ | refine WC.ret ?_ | refine WC.condT rfl (by decide) ?_ | refine WC.condF rfl (by decide) ?_) | refine seqQ_n ?_ | refine seqQ_r ?_)
    exact fin2r rfl rfl rfl ⟨rfl, hS.mutLp Pu⟩
  | d + 1, x, w0, hi, hp, hc, hN, hx, ht => by
    refine Cal.mkL hi (by kernel_rfl) Tryz.func135 rfl rfl fun hS => ?_
    obtain ⟨y, hy, hyx, hb0, htd⟩ := ht
    obtain rfl := nd_id hc.nd hy hx hyx
    have hlv := loadV_of hc hx
    have hid := hc.ids y hx
    have hbl := hc.base_le y hx
    obtain ⟨_, hdl, _, u, hu, hui, ps, hps, hdo⟩ := hc.by_ y hx hb0
    have hus := hc.size u hu
    have hud : Told vs d u.id := by rw [hui]; exact htd
    rw [hps, ← hui] at hlv
    rw [← hui] at hb0 hbl
    clear hps htd hui
    repeat' (first | (show WL _ _ _ _ _ _ _; first | refine WL.pure rfl rfl rfl rfl ?_ | refine WL.nil ?_ | (refine WL.callL (D := [bchC B (some ⟨Tp, 0, none⟩) m fb, tabC Tp q T fp]) hS Pu rfl rfl (fun hI => cload_c (vs := vs) (N := N) _ (by omega) (by omega) hI (hp.pull hS Pu) hc hN) rfl rfl rfl ?_; rintro v w ⟨rfl, hmu⟩ hS; rw [hlv]; replace hS := hS _ hmu; clear hmu) | (refine WL.callL (D := [bchC B (some ⟨Tp, 0, none⟩) m fb, tabC Tp q T fp]) hS Pu rfl rfl (fun hI => cget_c d u hI (hp.pull hS Pu) hc hN hu hud) rfl rfl rfl ?_; rintro v w ⟨rfl, hmu⟩ hS; replace hS := hS _ hmu; clear hmu) | (refine WL.calls hS rfl rfl (dapply_c u.data y.data ps _ hus hdl hdo) rfl rfl rfl ?_; rintro v w rfl hS)) | (show WC _ _ _ _ _ _; first | refine WC.seq ?_ | refine WC.region ?_ | refine WC.skip ?_ | refine WC.ret ?_ | refine WC.condF rfl (by decide) ?_ | refine WC.condF rfl (decide_eq_false (by first | with_reducible assumption | omega)) ?_) | refine seqQ_n ?_)
    exact fin2r rfl rfl rfl ⟨rfl, hS.mutLp Pu⟩
end
end Go.Proofs.YtobfdeiimnnanaaGreatDoor
