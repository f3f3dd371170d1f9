/-
  DERIVED: THE SHELF's CONTRACTS AT THIS DUMP, IN PLAIN WORDS (tools/lay-plain.mjs out of 'YtnihgcgcdjdhiaaGreatDoorSl.lean', which tools/lay-shelf.mjs wrote): THE SAME DECLARATIONS UNDER THE SAME NAMES: 'import', 'namespace', 'open', 'def', 'theorem' AND NOTHING ELSE: no command of the shelf's: FOR A HAND-IN. Each laying: the table of numbers ('.._ren') and one theorem, a field a fact of the dump's own or the kernel's comparison; each contract: ONE APPLICATION.
-/
import Derived.Shelf.SlGeneric
import Derived.Shelf.Slices.In.SortNone
import Derived.Shelf.Spec.SlicesGrow
import Derived.Shelf.Small.Strs
import Derived.Ground.NamesProg
import Derived.Ground.Names8Prog
import Derived.Test.YtnihgcgcdjdhiaaGreatDoorProg
namespace Go.Proofs
open Go.Shelf
def Tryz.sortL_ren : Go.Shelf.Ren := ⟨fun | 190 => 151 | 125 => 175 | 258 => 174 | 128 => 194 | 129 => 195 | 302 => 185 | 303 => 186 | 304 => 187 | 305 => 188 | 306 => 189 | 307 => 190 | 308 => 191 | 309 => 192 | 310 => 193 | 333 => 200 | 329 => 201 | 330 => 202 | 334 => 203 | 335 => 204 | 336 => 205 | 344 => 209 | n => n, fun | 31 => 99 | 9 => 9 | 3 => 3 | 46 => 175 | 0 => 0 | 51 => 189 | 53 => 139 | 4 => 4 | 183 => 181 | 182 => 180 | 131 => 186 | 5 => 5 | 218 => 193 | 222 => 197 | 228 => 202 | 229 => 203 | n => n, fun | n => n⟩
theorem Tryz.sortL : Go.Proofs.Lays.n190 Tryz.prog Tryz.sortL_ren := {
  mixed := by kernel_rfl
  f125 := Tryz.func175.trans (congrArg some (by kernel_rfl))
  f128 := Tryz.func194.trans (congrArg some (by kernel_rfl))
  f129 := Tryz.func195.trans (congrArg some (by kernel_rfl))
  f190 := Tryz.func151.trans (congrArg some (by kernel_rfl))
  f258 := Tryz.func174.trans (congrArg some (by kernel_rfl))
  f302 := Tryz.func185.trans (congrArg some (by kernel_rfl))
  f303 := Tryz.func186.trans (congrArg some (by kernel_rfl))
  f304 := Tryz.func187.trans (congrArg some (by kernel_rfl))
  f305 := Tryz.func188.trans (congrArg some (by kernel_rfl))
  f306 := Tryz.func189.trans (congrArg some (by kernel_rfl))
  f307 := Tryz.func190.trans (congrArg some (by kernel_rfl))
  f308 := Tryz.func191.trans (congrArg some (by kernel_rfl))
  f309 := Tryz.func192.trans (congrArg some (by kernel_rfl))
  f310 := Tryz.func193.trans (congrArg some (by kernel_rfl))
  f329 := Tryz.func201.trans (congrArg some (by kernel_rfl))
  f330 := Tryz.func202.trans (congrArg some (by kernel_rfl))
  f333 := Tryz.func200.trans (congrArg some (by kernel_rfl))
  f334 := Tryz.func203.trans (congrArg some (by kernel_rfl))
  f335 := Tryz.func204.trans (congrArg some (by kernel_rfl))
  f336 := Tryz.func205.trans (congrArg some (by kernel_rfl))
  f344 := Tryz.func209.trans (congrArg some (by kernel_rfl))
  t0 := Tryz.underlying0
  a0 := Tryz.isAgg0
  z0 := Tryz.sizeOf0
  v0 := Tryz.zeroValue0
  t3 := Tryz.underlying3
  a3 := Tryz.isAgg3
  z3 := Tryz.sizeOf3
  v3 := Tryz.zeroValue3
  t4 := Tryz.underlying4
  a4 := Tryz.isAgg4
  z4 := Tryz.sizeOf4
  v4 := Tryz.zeroValue4
  t5 := Tryz.underlying5
  a5 := Tryz.isAgg5
  z5 := Tryz.sizeOf5
  v5 := Tryz.zeroValue5
  t9 := Tryz.underlying9
  a9 := Tryz.isAgg9
  z9 := Tryz.sizeOf9
  v9 := Tryz.zeroValue9
  t31 := Tryz.underlying99
  a31 := Tryz.isAgg99
  z31 := Tryz.sizeOf99
  v31 := Tryz.zeroValue99
  t46 := Tryz.underlying175
  a46 := Tryz.isAgg175
  z46 := Tryz.sizeOf175
  v46 := Tryz.zeroValue175
  t51 := Tryz.underlying189
  a51 := Tryz.isAgg189
  z51 := Tryz.sizeOf189
  v51 := Tryz.zeroValue189
  t53 := Tryz.underlying139
  a53 := Tryz.isAgg139
  z53 := Tryz.sizeOf139
  v53 := Tryz.zeroValue139
  t131 := Tryz.underlying186
  a131 := Tryz.isAgg186
  z131 := Tryz.sizeOf186
  v131 := Tryz.zeroValue186
  t182 := Tryz.underlying180
  a182 := Tryz.isAgg180
  z182 := Tryz.sizeOf180
  v182 := Tryz.zeroValue180
  t183 := Tryz.underlying181
  a183 := Tryz.isAgg181
  z183 := Tryz.sizeOf181
  v183 := Tryz.zeroValue181
  t218 := Tryz.underlying193
  a218 := Tryz.isAgg193
  z218 := Tryz.sizeOf193
  v218 := Tryz.zeroValue193
  t222 := Tryz.underlying197
  a222 := Tryz.isAgg197
  z222 := Tryz.sizeOf197
  v222 := Tryz.zeroValue197
  t228 := Tryz.underlying202
  a228 := Tryz.isAgg202
  z228 := Tryz.sizeOf202
  v228 := Tryz.zeroValue202
  t229 := Tryz.underlying203
  a229 := Tryz.isAgg203
  z229 := Tryz.sizeOf203
  v229 := Tryz.zeroValue203 }
def Tryz.growL_ren : Go.Shelf.Ren := ⟨fun | 4 => 158 | n => n, fun | 22 => 26 | 25 => 23 | 3 => 3 | 4 => 4 | 9 => 9 | 20 => 20 | 0 => 0 | n => n, fun | n => n⟩
theorem Tryz.growL : Go.Proofs.Lays8.n4 Tryz.prog Tryz.growL_ren := {
  mixed := by kernel_rfl
  f4 := ⟨Tryz.f158.name, by decide, Tryz.func158.trans (congrArg some (by kernel_rfl))⟩
  t0 := Tryz.underlying0
  a0 := Tryz.isAgg0
  z0 := Tryz.sizeOf0
  v0 := Tryz.zeroValue0
  t3 := Tryz.underlying3
  a3 := Tryz.isAgg3
  z3 := Tryz.sizeOf3
  v3 := Tryz.zeroValue3
  t4 := Tryz.underlying4
  a4 := Tryz.isAgg4
  z4 := Tryz.sizeOf4
  v4 := Tryz.zeroValue4
  t9 := Tryz.underlying9
  a9 := Tryz.isAgg9
  z9 := Tryz.sizeOf9
  v9 := Tryz.zeroValue9
  t20 := Tryz.underlying20
  a20 := Tryz.isAgg20
  z20 := Tryz.sizeOf20
  v20 := Tryz.zeroValue20
  t22 := Tryz.underlying26
  a22 := Tryz.isAgg26
  z22 := Tryz.sizeOf26
  v22 := Tryz.zeroValue26 }
def Tryz.ixL_ren : Go.Shelf.Ren := ⟨fun | 137 => 180 | 217 => 198 | 266 => 208 | n => n, fun | 9 => 9 | 5 => 5 | 3 => 3 | n => n, fun | n => n⟩
theorem Tryz.ixL : Go.Proofs.Lays.n137 Tryz.prog Tryz.ixL_ren := {
  mixed := by kernel_rfl
  f137 := Tryz.func180.trans (congrArg some (by kernel_rfl))
  f217 := Tryz.func198.trans (congrArg some (by kernel_rfl))
  f266 := Tryz.func208.trans (congrArg some (by kernel_rfl))
  t3 := Tryz.underlying3
  a3 := Tryz.isAgg3
  z3 := Tryz.sizeOf3
  v3 := Tryz.zeroValue3
  t5 := Tryz.underlying5
  a5 := Tryz.isAgg5
  z5 := Tryz.sizeOf5
  v5 := Tryz.zeroValue5
  t9 := Tryz.underlying9
  a9 := Tryz.isAgg9
  z9 := Tryz.sizeOf9
  v9 := Tryz.zeroValue9 }
end Go.Proofs
