/-
 DERIVED: THE SHELF's CONTRACTS AT THIS DUMP, IN PLAIN WORDS (tools/lay-plain.mjs out of 'TryShelfT.lean', which tools/lay-shelf.mjs wrote): THE SAME DECLARATIONS UNDER THE SAME NAMES: 'import', 'namespace', 'open', 'def', 'theorem' AND NOTHING ELSE: no command of the shelf's: FOR A HAND-IN. Each laying: the table of numbers ('.._ren') and one theorem, a field a fact of the dump's own or the kernel's comparison; each contract: ONE APPLICATION.
-/
import Derived.Shelf.SlGeneric
import Derived.Shelf.Small.Wraps
import Derived.Shelf.Sort.Plain
import Derived.Shelf.Slices.In.SortNone
import Derived.Shelf.SlIterI.Nil
import Derived.Ground.GgzProg
import Derived.Ground.Names2Prog
import Derived.Test.YtmcljhjmmipagaaProg
namespace Go.Proofs
open Go.Shelf
def Try.lays122_ren : Go.Shelf.Ren := ⟨fun | 122 => 47 | 215 => 64 | n => n, fun | 3 => 3 | 4 => 4 | n => n, fun | n => n⟩
theorem Try.lays122 : Go.Proofs.Lays.n122 Try.prog Try.lays122_ren := {
 mixed := by kernel_rfl
 f122 := Try.func47.trans (congrArg some (by kernel_rfl))
 f215 := Try.func64.trans (congrArg some (by kernel_rfl))
 t3 := Try.underlying3
 a3 := Try.isAgg3
 z3 := Try.sizeOf3
 v3 := Try.zeroValue3
 t4 := Try.underlying4
 a4 := Try.isAgg4
 z4 := Try.sizeOf4
 v4 := Try.zeroValue4 }
open Go.RowKit in
theorem Try.cmp_Compare_int (x y : Int) (w : World) :
  Calls Try.prog 47 #[.int .i64 x, .int .i64 y] w fun e w' => e = .returned (.int .i64 (Lib.compareInt x y)) ∧ w' = w := Any.cmp_Compare_int Try.lays122 x y w
def Try.lays189_ren : Go.Shelf.Ren := ⟨fun | 189 => 62 | 125 => 71 | 257 => 70 | 128 => 81 | 129 => 82 | 294 => 72 | 295 => 73 | 296 => 74 | 297 => 75 | 298 => 76 | 299 => 77 | 216 => 78 | 300 => 79 | 301 => 80 | 328 => 83 | 329 => 84 | 330 => 85 | 331 => 86 | 332 => 87 | 215 => 64 | 343 => 88 | n => n, fun | 28 => 22 | 3 => 3 | 46 => 45 | 0 => 0 | 51 => 94 | 53 => 96 | 4 => 4 | 183 => 87 | 182 => 86 | 131 => 67 | 5 => 5 | 9 => 9 | 218 => 97 | 222 => 101 | 228 => 103 | 229 => 73 | n => n, fun | n => n⟩
theorem Try.lays189 : Go.Proofs.Lays.n189 Try.prog Try.lays189_ren := {
 mixed := by kernel_rfl
 f125 := Try.func71.trans (congrArg some (by kernel_rfl))
 f128 := Try.func81.trans (congrArg some (by kernel_rfl))
 f129 := Try.func82.trans (congrArg some (by kernel_rfl))
 f189 := Try.func62.trans (congrArg some (by kernel_rfl))
 f215 := Try.func64.trans (congrArg some (by kernel_rfl))
 f216 := Try.func78.trans (congrArg some (by kernel_rfl))
 f257 := Try.func70.trans (congrArg some (by kernel_rfl))
 f294 := Try.func72.trans (congrArg some (by kernel_rfl))
 f295 := Try.func73.trans (congrArg some (by kernel_rfl))
 f296 := Try.func74.trans (congrArg some (by kernel_rfl))
 f297 := Try.func75.trans (congrArg some (by kernel_rfl))
 f298 := Try.func76.trans (congrArg some (by kernel_rfl))
 f299 := Try.func77.trans (congrArg some (by kernel_rfl))
 f300 := Try.func79.trans (congrArg some (by kernel_rfl))
 f301 := Try.func80.trans (congrArg some (by kernel_rfl))
 f328 := Try.func83.trans (congrArg some (by kernel_rfl))
 f329 := Try.func84.trans (congrArg some (by kernel_rfl))
 f330 := Try.func85.trans (congrArg some (by kernel_rfl))
 f331 := Try.func86.trans (congrArg some (by kernel_rfl))
 f332 := Try.func87.trans (congrArg some (by kernel_rfl))
 f343 := Try.func88.trans (congrArg some (by kernel_rfl))
 t0 := Try.underlying0
 a0 := Try.isAgg0
 z0 := Try.sizeOf0
 v0 := Try.zeroValue0
 t3 := Try.underlying3
 a3 := Try.isAgg3
 z3 := Try.sizeOf3
 v3 := Try.zeroValue3
 t4 := Try.underlying4
 a4 := Try.isAgg4
 z4 := Try.sizeOf4
 v4 := Try.zeroValue4
 t5 := Try.underlying5
 a5 := Try.isAgg5
 z5 := Try.sizeOf5
 v5 := Try.zeroValue5
 t9 := Try.underlying9
 a9 := Try.isAgg9
 z9 := Try.sizeOf9
 v9 := Try.zeroValue9
 t28 := Try.underlying22
 a28 := Try.isAgg22
 z28 := Try.sizeOf22
 v28 := Try.zeroValue22
 t46 := Try.underlying45
 a46 := Try.isAgg45
 z46 := Try.sizeOf45
 v46 := Try.zeroValue45
 t51 := Try.underlying94
 a51 := Try.isAgg94
 z51 := Try.sizeOf94
 v51 := Try.zeroValue94
 t53 := Try.underlying96
 a53 := Try.isAgg96
 z53 := Try.sizeOf96
 v53 := Try.zeroValue96
 t131 := Try.underlying67
 a131 := Try.isAgg67
 z131 := Try.sizeOf67
 v131 := Try.zeroValue67
 t182 := Try.underlying86
 a182 := Try.isAgg86
 z182 := Try.sizeOf86
 v182 := Try.zeroValue86
 t183 := Try.underlying87
 a183 := Try.isAgg87
 z183 := Try.sizeOf87
 v183 := Try.zeroValue87
 t218 := Try.underlying97
 a218 := Try.isAgg97
 z218 := Try.sizeOf97
 v218 := Try.zeroValue97
 t222 := Try.underlying101
 a222 := Try.isAgg101
 z222 := Try.sizeOf101
 v222 := Try.zeroValue101
 t228 := Try.underlying103
 a228 := Try.isAgg103
 z228 := Try.sizeOf103
 v228 := Try.zeroValue103
 t229 := Try.underlying73
 a229 := Try.isAgg73
 z229 := Try.sizeOf73
 v229 := Try.zeroValue73 }
def Try.keysA_ren : Go.Shelf.Ren := ⟨fun | 7 => 46 | 10 => 63 | n => n, fun | 23 => 55 | 26 => 3 | 3 => 57 | 28 => 61 | 0 => 0 | 27 => 60 | 33 => 47 | 4 => 4 | n => n, fun | n => n⟩
theorem Try.keysA : Go.Proofs.SlLaysZI.n7 Try.prog Try.keysA_ren := {
 mixed := by kernel_rfl
 f7 := ⟨Try.f46.name, by decide, Try.func46.trans (congrArg some (by kernel_rfl))⟩
 f10 := ⟨Try.f63.name, by decide, Try.func63.trans (congrArg some (by kernel_rfl))⟩
 t0 := Try.underlying0
 a0 := Try.isAgg0
 z0 := Try.sizeOf0
 v0 := Try.zeroValue0
 t4 := Try.underlying4
 a4 := Try.isAgg4
 z4 := Try.sizeOf4
 v4 := Try.zeroValue4
 t23 := Try.underlying55
 a23 := Try.isAgg55
 z23 := Try.sizeOf55
 v23 := Try.zeroValue55
 t26 := Try.underlying3
 a26 := Try.isAgg3
 z26 := Try.sizeOf3
 v26 := Try.zeroValue3
 t27 := Try.underlying60
 a27 := Try.isAgg60
 z27 := Try.sizeOf60
 v27 := Try.zeroValue60
 t28 := Try.underlying61
 a28 := Try.isAgg61
 z28 := Try.sizeOf61
 v28 := Try.zeroValue61
 t33 := Try.underlying47
 a33 := Try.isAgg47
 z33 := Try.sizeOf47
 v33 := Try.zeroValue47 }
def Try.sortedA_ren : Go.Shelf.Ren := ⟨fun | 6 => 45 | 8 => 61 | 9 => 62 | 11 => 69 | 13 => 71 | 12 => 70 | 23 => 81 | 24 => 82 | 14 => 72 | 15 => 73 | 16 => 74 | 17 => 75 | 18 => 76 | 19 => 77 | 20 => 78 | 21 => 79 | 22 => 80 | 25 => 83 | 26 => 84 | 27 => 85 | 28 => 86 | 29 => 87 | 30 => 64 | 31 => 88 | n => n, fun | 26 => 3 | 28 => 61 | 24 => 22 | 0 => 0 | 3 => 3 | 37 => 45 | 48 => 94 | 50 => 96 | 4 => 4 | 40 => 87 | 39 => 86 | 45 => 67 | 5 => 5 | 9 => 9 | 51 => 97 | 55 => 101 | 57 => 103 | 58 => 73 | 33 => 47 | n => n, fun | n => n⟩
theorem Try.sortedA : Go.Proofs.SlLaysZI.n6 Try.prog Try.sortedA_ren := {
 mixed := by kernel_rfl
 f6 := ⟨Try.f45.name, by decide, Try.func45.trans (congrArg some (by kernel_rfl))⟩
 f8 := ⟨Try.f61.name, by decide, Try.func61.trans (congrArg some (by kernel_rfl))⟩
 f11 := ⟨Try.f69.name, by decide, Try.func69.trans (congrArg some (by kernel_rfl))⟩
 t0 := Try.underlying0
 a0 := Try.isAgg0
 z0 := Try.sizeOf0
 v0 := Try.zeroValue0
 t24 := Try.underlying22
 a24 := Try.isAgg22
 z24 := Try.sizeOf22
 v24 := Try.zeroValue22
 t26 := Try.underlying3
 a26 := Try.isAgg3
 z26 := Try.sizeOf3
 v26 := Try.zeroValue3
 t28 := Try.underlying61
 a28 := Try.isAgg61
 z28 := Try.sizeOf61
 v28 := Try.zeroValue61
 i26 := by kernel_rfl }
end Go.Proofs
