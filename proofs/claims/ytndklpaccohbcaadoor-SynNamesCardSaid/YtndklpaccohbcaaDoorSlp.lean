/-
  DERIVED: THE SHELF's CONTRACTS AT THIS DUMP, IN PLAIN WORDS (tools/lay-plain.mjs out of 'YtndklpaccohbcaaDoorSl.lean', which tools/lay-shelf.mjs wrote): THE SAME DECLARATIONS UNDER THE SAME NAMES: 'import', 'namespace', 'open', 'def', 'theorem' AND NOTHING ELSE: no command of the shelf's: FOR A HAND-IN. Each laying: the table of numbers ('.._ren') and one theorem, a field a fact of the dump's own or the kernel's comparison; each contract: ONE APPLICATION.
-/
import Derived.Shelf.SlGeneric
import Derived.Shelf.Slices.In.SortNone
import Derived.Shelf.Spec.SlicesGrow
import Derived.Shelf.Small.Strs
import Derived.Ground.NamesProg
import Derived.Ground.Names8Prog
import Derived.Test.YtndklpaccohbcaaDoorProg
namespace Go.Proofs
open Go.Shelf
def Tryd.sortL_ren : Go.Shelf.Ren := ⟨fun | 190 => 53 | 125 => 77 | 258 => 76 | 128 => 98 | 129 => 99 | 302 => 89 | 303 => 90 | 304 => 91 | 305 => 92 | 306 => 93 | 307 => 94 | 308 => 95 | 309 => 96 | 310 => 97 | 333 => 103 | 329 => 104 | 330 => 105 | 334 => 106 | 335 => 107 | 336 => 108 | 344 => 112 | n => n, fun | 31 => 31 | 9 => 9 | 3 => 3 | 46 => 84 | 0 => 0 | 51 => 103 | 53 => 88 | 4 => 4 | 183 => 95 | 182 => 94 | 131 => 100 | 5 => 5 | 218 => 106 | 222 => 110 | 228 => 115 | 229 => 116 | n => n, fun | n => n⟩
theorem Tryd.sortL : Go.Proofs.Lays.n190 Tryd.prog Tryd.sortL_ren := {
  mixed := by kernel_rfl
  f125 := Tryd.func77.trans (congrArg some (by kernel_rfl))
  f128 := Tryd.func98.trans (congrArg some (by kernel_rfl))
  f129 := Tryd.func99.trans (congrArg some (by kernel_rfl))
  f190 := Tryd.func53.trans (congrArg some (by kernel_rfl))
  f258 := Tryd.func76.trans (congrArg some (by kernel_rfl))
  f302 := Tryd.func89.trans (congrArg some (by kernel_rfl))
  f303 := Tryd.func90.trans (congrArg some (by kernel_rfl))
  f304 := Tryd.func91.trans (congrArg some (by kernel_rfl))
  f305 := Tryd.func92.trans (congrArg some (by kernel_rfl))
  f306 := Tryd.func93.trans (congrArg some (by kernel_rfl))
  f307 := Tryd.func94.trans (congrArg some (by kernel_rfl))
  f308 := Tryd.func95.trans (congrArg some (by kernel_rfl))
  f309 := Tryd.func96.trans (congrArg some (by kernel_rfl))
  f310 := Tryd.func97.trans (congrArg some (by kernel_rfl))
  f329 := Tryd.func104.trans (congrArg some (by kernel_rfl))
  f330 := Tryd.func105.trans (congrArg some (by kernel_rfl))
  f333 := Tryd.func103.trans (congrArg some (by kernel_rfl))
  f334 := Tryd.func106.trans (congrArg some (by kernel_rfl))
  f335 := Tryd.func107.trans (congrArg some (by kernel_rfl))
  f336 := Tryd.func108.trans (congrArg some (by kernel_rfl))
  f344 := Tryd.func112.trans (congrArg some (by kernel_rfl))
  t0 := Tryd.underlying0
  a0 := Tryd.isAgg0
  z0 := Tryd.sizeOf0
  v0 := Tryd.zeroValue0
  t3 := Tryd.underlying3
  a3 := Tryd.isAgg3
  z3 := Tryd.sizeOf3
  v3 := Tryd.zeroValue3
  t4 := Tryd.underlying4
  a4 := Tryd.isAgg4
  z4 := Tryd.sizeOf4
  v4 := Tryd.zeroValue4
  t5 := Tryd.underlying5
  a5 := Tryd.isAgg5
  z5 := Tryd.sizeOf5
  v5 := Tryd.zeroValue5
  t9 := Tryd.underlying9
  a9 := Tryd.isAgg9
  z9 := Tryd.sizeOf9
  v9 := Tryd.zeroValue9
  t31 := Tryd.underlying31
  a31 := Tryd.isAgg31
  z31 := Tryd.sizeOf31
  v31 := Tryd.zeroValue31
  t46 := Tryd.underlying84
  a46 := Tryd.isAgg84
  z46 := Tryd.sizeOf84
  v46 := Tryd.zeroValue84
  t51 := Tryd.underlying103
  a51 := Tryd.isAgg103
  z51 := Tryd.sizeOf103
  v51 := Tryd.zeroValue103
  t53 := Tryd.underlying88
  a53 := Tryd.isAgg88
  z53 := Tryd.sizeOf88
  v53 := Tryd.zeroValue88
  t131 := Tryd.underlying100
  a131 := Tryd.isAgg100
  z131 := Tryd.sizeOf100
  v131 := Tryd.zeroValue100
  t182 := Tryd.underlying94
  a182 := Tryd.isAgg94
  z182 := Tryd.sizeOf94
  v182 := Tryd.zeroValue94
  t183 := Tryd.underlying95
  a183 := Tryd.isAgg95
  z183 := Tryd.sizeOf95
  v183 := Tryd.zeroValue95
  t218 := Tryd.underlying106
  a218 := Tryd.isAgg106
  z218 := Tryd.sizeOf106
  v218 := Tryd.zeroValue106
  t222 := Tryd.underlying110
  a222 := Tryd.isAgg110
  z222 := Tryd.sizeOf110
  v222 := Tryd.zeroValue110
  t228 := Tryd.underlying115
  a228 := Tryd.isAgg115
  z228 := Tryd.sizeOf115
  v228 := Tryd.zeroValue115
  t229 := Tryd.underlying116
  a229 := Tryd.isAgg116
  z229 := Tryd.sizeOf116
  v229 := Tryd.zeroValue116 }
def Tryd.growL_ren : Go.Shelf.Ren := ⟨fun | 4 => 74 | n => n, fun | 22 => 22 | 25 => 42 | 3 => 3 | 4 => 4 | 9 => 9 | 20 => 20 | 0 => 0 | n => n, fun | n => n⟩
theorem Tryd.growL : Go.Proofs.Lays8.n4 Tryd.prog Tryd.growL_ren := {
  mixed := by kernel_rfl
  f4 := ⟨Tryd.f74.name, by decide, Tryd.func74.trans (congrArg some (by kernel_rfl))⟩
  t0 := Tryd.underlying0
  a0 := Tryd.isAgg0
  z0 := Tryd.sizeOf0
  v0 := Tryd.zeroValue0
  t3 := Tryd.underlying3
  a3 := Tryd.isAgg3
  z3 := Tryd.sizeOf3
  v3 := Tryd.zeroValue3
  t4 := Tryd.underlying4
  a4 := Tryd.isAgg4
  z4 := Tryd.sizeOf4
  v4 := Tryd.zeroValue4
  t9 := Tryd.underlying9
  a9 := Tryd.isAgg9
  z9 := Tryd.sizeOf9
  v9 := Tryd.zeroValue9
  t20 := Tryd.underlying20
  a20 := Tryd.isAgg20
  z20 := Tryd.sizeOf20
  v20 := Tryd.zeroValue20
  t22 := Tryd.underlying22
  a22 := Tryd.isAgg22
  z22 := Tryd.sizeOf22
  v22 := Tryd.zeroValue22 }
def Tryd.ixL_ren : Go.Shelf.Ren := ⟨fun | 137 => 82 | 217 => 101 | 266 => 111 | n => n, fun | 9 => 9 | 5 => 5 | 3 => 3 | n => n, fun | n => n⟩
theorem Tryd.ixL : Go.Proofs.Lays.n137 Tryd.prog Tryd.ixL_ren := {
  mixed := by kernel_rfl
  f137 := Tryd.func82.trans (congrArg some (by kernel_rfl))
  f217 := Tryd.func101.trans (congrArg some (by kernel_rfl))
  f266 := Tryd.func111.trans (congrArg some (by kernel_rfl))
  t3 := Tryd.underlying3
  a3 := Tryd.isAgg3
  z3 := Tryd.sizeOf3
  v3 := Tryd.zeroValue3
  t5 := Tryd.underlying5
  a5 := Tryd.isAgg5
  z5 := Tryd.sizeOf5
  v5 := Tryd.zeroValue5
  t9 := Tryd.underlying9
  a9 := Tryd.isAgg9
  z9 := Tryd.sizeOf9
  v9 := Tryd.zeroValue9 }
end Go.Proofs
