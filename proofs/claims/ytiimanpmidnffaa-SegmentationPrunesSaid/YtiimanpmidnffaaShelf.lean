/-
  DERIVED: THE SHELF's CONTRACTS AT THIS DUMP, IN PLAIN WORDS (tools/lay-plain.mjs out of 'TryShelf.lean', which tools/lay-shelf.mjs wrote): THE SAME DECLARATIONS UNDER THE SAME NAMES: 'import', 'namespace', 'open', 'def', 'theorem' AND NOTHING ELSE: no command of the shelf's: FOR A HAND-IN. Each laying: the table of numbers ('.._ren') and one theorem, a field a fact of the dump's own or the kernel's comparison; each contract: ONE APPLICATION.
-/
import Derived.Shelf.Sort.Plain
import Derived.Ground.NamesProg
import Derived.Ground.Names2Prog
import Derived.Shelf.Slices.Clone
import Derived.Shelf.Slices.Delete
import Derived.Shelf.Spec.SlicesInsert
import Derived.Shelf.Spec.SlicesInsertGrow
import Derived.Test.YtiimanpmidnffaaProg
namespace Go.Proofs
open Go.Shelf
def Try.lays189_ren : Go.Shelf.Ren := ⟨fun | 189 => 54 | 125 => 62 | 257 => 61 | 128 => 74 | 129 => 75 | 294 => 66 | 295 => 67 | 296 => 68 | 297 => 69 | 298 => 70 | 299 => 71 | 216 => 57 | 300 => 72 | 301 => 73 | 328 => 77 | 329 => 78 | 330 => 79 | 331 => 80 | 332 => 81 | 215 => 64 | 343 => 82 | n => n, fun | 28 => 24 | 3 => 3 | 46 => 91 | 0 => 0 | 51 => 105 | 53 => 107 | 4 => 4 | 183 => 99 | 182 => 98 | 131 => 84 | 5 => 5 | 9 => 9 | 218 => 108 | 222 => 112 | 228 => 114 | 229 => 115 | n => n, fun | n => n⟩
theorem Try.lays189 : Go.Proofs.Lays.n189 Try.prog Try.lays189_ren := {
  mixed := by kernel_rfl
  f125 := Try.func62.trans (congrArg some (by kernel_rfl))
  f128 := Try.func74.trans (congrArg some (by kernel_rfl))
  f129 := Try.func75.trans (congrArg some (by kernel_rfl))
  f189 := Try.func54.trans (congrArg some (by kernel_rfl))
  f215 := Try.func64.trans (congrArg some (by kernel_rfl))
  f216 := Try.func57.trans (congrArg some (by kernel_rfl))
  f257 := Try.func61.trans (congrArg some (by kernel_rfl))
  f294 := Try.func66.trans (congrArg some (by kernel_rfl))
  f295 := Try.func67.trans (congrArg some (by kernel_rfl))
  f296 := Try.func68.trans (congrArg some (by kernel_rfl))
  f297 := Try.func69.trans (congrArg some (by kernel_rfl))
  f298 := Try.func70.trans (congrArg some (by kernel_rfl))
  f299 := Try.func71.trans (congrArg some (by kernel_rfl))
  f300 := Try.func72.trans (congrArg some (by kernel_rfl))
  f301 := Try.func73.trans (congrArg some (by kernel_rfl))
  f328 := Try.func77.trans (congrArg some (by kernel_rfl))
  f329 := Try.func78.trans (congrArg some (by kernel_rfl))
  f330 := Try.func79.trans (congrArg some (by kernel_rfl))
  f331 := Try.func80.trans (congrArg some (by kernel_rfl))
  f332 := Try.func81.trans (congrArg some (by kernel_rfl))
  f343 := Try.func82.trans (congrArg some (by kernel_rfl))
  t0 := Try.underlying0
  a0 := Try.isAgg0
  z0 := Try.sizeOf0
  v0 := Try.zeroValue0
  t3 := Try.underlying3
  a3 := Try.isAgg3
  z3 := Try.sizeOf3
  v3 := Try.zeroValue3
  t4 := Try.underlying4
  a4 := Try.isAgg4
  z4 := Try.sizeOf4
  v4 := Try.zeroValue4
  t5 := Try.underlying5
  a5 := Try.isAgg5
  z5 := Try.sizeOf5
  v5 := Try.zeroValue5
  t9 := Try.underlying9
  a9 := Try.isAgg9
  z9 := Try.sizeOf9
  v9 := Try.zeroValue9
  t28 := Try.underlying24
  a28 := Try.isAgg24
  z28 := Try.sizeOf24
  v28 := Try.zeroValue24
  t46 := Try.underlying91
  a46 := Try.isAgg91
  z46 := Try.sizeOf91
  v46 := Try.zeroValue91
  t51 := Try.underlying105
  a51 := Try.isAgg105
  z51 := Try.sizeOf105
  v51 := Try.zeroValue105
  t53 := Try.underlying107
  a53 := Try.isAgg107
  z53 := Try.sizeOf107
  v53 := Try.zeroValue107
  t131 := Try.underlying84
  a131 := Try.isAgg84
  z131 := Try.sizeOf84
  v131 := Try.zeroValue84
  t182 := Try.underlying98
  a182 := Try.isAgg98
  z182 := Try.sizeOf98
  v182 := Try.zeroValue98
  t183 := Try.underlying99
  a183 := Try.isAgg99
  z183 := Try.sizeOf99
  v183 := Try.zeroValue99
  t218 := Try.underlying108
  a218 := Try.isAgg108
  z218 := Try.sizeOf108
  v218 := Try.zeroValue108
  t222 := Try.underlying112
  a222 := Try.isAgg112
  z222 := Try.sizeOf112
  v222 := Try.zeroValue112
  t228 := Try.underlying114
  a228 := Try.isAgg114
  z228 := Try.sizeOf114
  v228 := Try.zeroValue114
  t229 := Try.underlying115
  a229 := Try.isAgg115
  z229 := Try.sizeOf115
  v229 := Try.zeroValue115 }
def Try.laysNm215_ren : Go.Shelf.Ren := ⟨fun | 15 => 48 | n => n, fun | 22 => 24 | 3 => 3 | 4 => 4 | n => n, fun | n => n⟩
theorem Try.laysNm215 : Go.Proofs.Lays2.n15 Try.prog Try.laysNm215_ren := {
  mixed := by kernel_rfl
  f15 := Try.func48.trans (congrArg some (by kernel_rfl))
  t3 := Try.underlying3
  a3 := Try.isAgg3
  z3 := Try.sizeOf3
  v3 := Try.zeroValue3
  t4 := Try.underlying4
  a4 := Try.isAgg4
  z4 := Try.sizeOf4
  v4 := Try.zeroValue4
  t22 := Try.underlying24
  a22 := Try.isAgg24
  z22 := Try.sizeOf24
  v22 := Try.zeroValue24
  i3 := by kernel_rfl }
def Try.laysNm223_ren : Go.Shelf.Ren := ⟨fun | 23 => 53 | n => n, fun | 22 => 24 | 3 => 3 | 4 => 4 | 0 => 0 | n => n, fun | n => n⟩
theorem Try.laysNm223 : Go.Proofs.Lays2.n23 Try.prog Try.laysNm223_ren := {
  mixed := by kernel_rfl
  f23 := Try.func53.trans (congrArg some (by kernel_rfl))
  t0 := Try.underlying0
  a0 := Try.isAgg0
  z0 := Try.sizeOf0
  v0 := Try.zeroValue0
  t3 := Try.underlying3
  a3 := Try.isAgg3
  z3 := Try.sizeOf3
  v3 := Try.zeroValue3
  t4 := Try.underlying4
  a4 := Try.isAgg4
  z4 := Try.sizeOf4
  v4 := Try.zeroValue4
  t22 := Try.underlying24
  a22 := Try.isAgg24
  z22 := Try.sizeOf24
  v22 := Try.zeroValue24
  i3 := by kernel_rfl }
def Try.laysNm221_ren : Go.Shelf.Ren := ⟨fun | 21 => 52 | 27 => 59 | 28 => 60 | 35 => 65 | 39 => 76 | n => n, fun | 22 => 24 | 3 => 3 | 4 => 4 | 0 => 0 | n => n, fun | n => n⟩
theorem Try.laysNm221 : Go.Proofs.Lays2.n21 Try.prog Try.laysNm221_ren := {
  mixed := by kernel_rfl
  f21 := Try.func52.trans (congrArg some (by kernel_rfl))
  f27 := Try.func59.trans (congrArg some (by kernel_rfl))
  f28 := Try.func60.trans (congrArg some (by kernel_rfl))
  f35 := Try.func65.trans (congrArg some (by kernel_rfl))
  f39 := Try.func76.trans (congrArg some (by kernel_rfl))
  t0 := Try.underlying0
  a0 := Try.isAgg0
  z0 := Try.sizeOf0
  v0 := Try.zeroValue0
  t3 := Try.underlying3
  a3 := Try.isAgg3
  z3 := Try.sizeOf3
  v3 := Try.zeroValue3
  t4 := Try.underlying4
  a4 := Try.isAgg4
  z4 := Try.sizeOf4
  v4 := Try.zeroValue4
  t22 := Try.underlying24
  a22 := Try.isAgg24
  z22 := Try.sizeOf24
  v22 := Try.zeroValue24
  i3 := by kernel_rfl }
end Go.Proofs
