/-
  DERIVED: THE SHELF's CONTRACTS AT THIS DUMP, IN PLAIN WORDS (tools/lay-plain.mjs out of 'TrydShelfT.lean', which tools/lay-shelf.mjs wrote): THE SAME DECLARATIONS UNDER THE SAME NAMES: 'import', 'namespace', 'open', 'def', 'theorem' AND NOTHING ELSE: no command of the shelf's: FOR A HAND-IN. Each laying: the table of numbers ('.._ren') and one theorem, a field a fact of the dump's own or the kernel's comparison; each contract: ONE APPLICATION.
-/
import Derived.Shelf.Sort.Plain
import Derived.Shelf.Slices.In.SortNone
import Derived.Shelf.Slices.CompactI
import Derived.Ground.NamesProg
import Derived.Ground.Names2Prog
import Derived.Test.YtphegiohkggddaaDoorProg
namespace Go.Proofs
open Go.Shelf
def Tryd.lays189_ren : Go.Shelf.Ren := ⟨fun | 189 => 37 | 125 => 53 | 257 => 52 | 128 => 64 | 129 => 65 | 294 => 55 | 295 => 56 | 296 => 57 | 297 => 58 | 298 => 59 | 299 => 60 | 216 => 61 | 300 => 62 | 301 => 63 | 328 => 66 | 329 => 67 | 330 => 68 | 331 => 69 | 332 => 70 | 215 => 71 | 343 => 72 | n => n, fun | 28 => 36 | 3 => 3 | 46 => 56 | 0 => 0 | 51 => 68 | 53 => 70 | 4 => 4 | 183 => 60 | 182 => 59 | 131 => 65 | 5 => 5 | 9 => 9 | 218 => 71 | 222 => 75 | 228 => 78 | 229 => 79 | n => n, fun | n => n⟩
theorem Tryd.lays189 : Go.Proofs.Lays.n189 Tryd.prog Tryd.lays189_ren := {
  mixed := by kernel_rfl
  f125 := Tryd.func53.trans (congrArg some (by kernel_rfl))
  f128 := Tryd.func64.trans (congrArg some (by kernel_rfl))
  f129 := Tryd.func65.trans (congrArg some (by kernel_rfl))
  f189 := Tryd.func37.trans (congrArg some (by kernel_rfl))
  f215 := Tryd.func71.trans (congrArg some (by kernel_rfl))
  f216 := Tryd.func61.trans (congrArg some (by kernel_rfl))
  f257 := Tryd.func52.trans (congrArg some (by kernel_rfl))
  f294 := Tryd.func55.trans (congrArg some (by kernel_rfl))
  f295 := Tryd.func56.trans (congrArg some (by kernel_rfl))
  f296 := Tryd.func57.trans (congrArg some (by kernel_rfl))
  f297 := Tryd.func58.trans (congrArg some (by kernel_rfl))
  f298 := Tryd.func59.trans (congrArg some (by kernel_rfl))
  f299 := Tryd.func60.trans (congrArg some (by kernel_rfl))
  f300 := Tryd.func62.trans (congrArg some (by kernel_rfl))
  f301 := Tryd.func63.trans (congrArg some (by kernel_rfl))
  f328 := Tryd.func66.trans (congrArg some (by kernel_rfl))
  f329 := Tryd.func67.trans (congrArg some (by kernel_rfl))
  f330 := Tryd.func68.trans (congrArg some (by kernel_rfl))
  f331 := Tryd.func69.trans (congrArg some (by kernel_rfl))
  f332 := Tryd.func70.trans (congrArg some (by kernel_rfl))
  f343 := Tryd.func72.trans (congrArg some (by kernel_rfl))
  t0 := Tryd.underlying0
  a0 := Tryd.isAgg0
  z0 := Tryd.sizeOf0
  v0 := Tryd.zeroValue0
  t3 := Tryd.underlying3
  a3 := Tryd.isAgg3
  z3 := Tryd.sizeOf3
  v3 := Tryd.zeroValue3
  t4 := Tryd.underlying4
  a4 := Tryd.isAgg4
  z4 := Tryd.sizeOf4
  v4 := Tryd.zeroValue4
  t5 := Tryd.underlying5
  a5 := Tryd.isAgg5
  z5 := Tryd.sizeOf5
  v5 := Tryd.zeroValue5
  t9 := Tryd.underlying9
  a9 := Tryd.isAgg9
  z9 := Tryd.sizeOf9
  v9 := Tryd.zeroValue9
  t28 := Tryd.underlying36
  a28 := Tryd.isAgg36
  z28 := Tryd.sizeOf36
  v28 := Tryd.zeroValue36
  t46 := Tryd.underlying56
  a46 := Tryd.isAgg56
  z46 := Tryd.sizeOf56
  v46 := Tryd.zeroValue56
  t51 := Tryd.underlying68
  a51 := Tryd.isAgg68
  z51 := Tryd.sizeOf68
  v51 := Tryd.zeroValue68
  t53 := Tryd.underlying70
  a53 := Tryd.isAgg70
  z53 := Tryd.sizeOf70
  v53 := Tryd.zeroValue70
  t131 := Tryd.underlying65
  a131 := Tryd.isAgg65
  z131 := Tryd.sizeOf65
  v131 := Tryd.zeroValue65
  t182 := Tryd.underlying59
  a182 := Tryd.isAgg59
  z182 := Tryd.sizeOf59
  v182 := Tryd.zeroValue59
  t183 := Tryd.underlying60
  a183 := Tryd.isAgg60
  z183 := Tryd.sizeOf60
  v183 := Tryd.zeroValue60
  t218 := Tryd.underlying71
  a218 := Tryd.isAgg71
  z218 := Tryd.sizeOf71
  v218 := Tryd.zeroValue71
  t222 := Tryd.underlying75
  a222 := Tryd.isAgg75
  z222 := Tryd.sizeOf75
  v222 := Tryd.zeroValue75
  t228 := Tryd.underlying78
  a228 := Tryd.isAgg78
  z228 := Tryd.sizeOf78
  v228 := Tryd.zeroValue78
  t229 := Tryd.underlying79
  a229 := Tryd.isAgg79
  z229 := Tryd.sizeOf79
  v229 := Tryd.zeroValue79 }
def Tryd.lays2_20_ren : Go.Shelf.Ren := ⟨fun | 20 => 38 | n => n, fun | 22 => 36 | 3 => 3 | 4 => 4 | 0 => 0 | n => n, fun | n => n⟩
theorem Tryd.lays2_20 : Go.Proofs.Lays2.n20 Tryd.prog Tryd.lays2_20_ren := {
  mixed := by kernel_rfl
  f20 := Tryd.func38.trans (congrArg some (by kernel_rfl))
  t0 := Tryd.underlying0
  a0 := Tryd.isAgg0
  z0 := Tryd.sizeOf0
  v0 := Tryd.zeroValue0
  t3 := Tryd.underlying3
  a3 := Tryd.isAgg3
  z3 := Tryd.sizeOf3
  v3 := Tryd.zeroValue3
  t4 := Tryd.underlying4
  a4 := Tryd.isAgg4
  z4 := Tryd.sizeOf4
  v4 := Tryd.zeroValue4
  t22 := Tryd.underlying36
  a22 := Tryd.isAgg36
  z22 := Tryd.sizeOf36
  v22 := Tryd.zeroValue36
  i3 := by kernel_rfl }
end Go.Proofs
