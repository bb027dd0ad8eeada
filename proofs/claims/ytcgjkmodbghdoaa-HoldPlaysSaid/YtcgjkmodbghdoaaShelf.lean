/-
  DERIVED: THE SHELF's CONTRACTS AT THIS DUMP, IN PLAIN WORDS (tools/lay-plain.mjs out of 'YtcgjkmodbghdoaaShelf.lean', which tools/lay-shelf.mjs wrote): THE SAME DECLARATIONS UNDER THE SAME NAMES: 'import', 'namespace', 'open', 'def', 'theorem' AND NOTHING ELSE: no command of the shelf's: FOR A HAND-IN. Each laying: the table of numbers ('.._ren') and one theorem, a field a fact of the dump's own or the kernel's comparison; each contract: ONE APPLICATION.
-/
import Derived.Shelf.Sort.Plain
import Derived.Shelf.Slices.In.SortNone
import Derived.Ground.NamesProg
import Derived.Test.YtcgjkmodbghdoaaProg
namespace Go.Proofs
open Go.Shelf
def Try.laysSort_ren : Go.Shelf.Ren := ⟨fun | 190 => 21 | 125 => 24 | 258 => 23 | 128 => 34 | 129 => 35 | 302 => 25 | 303 => 26 | 304 => 27 | 305 => 28 | 306 => 29 | 307 => 30 | 308 => 31 | 309 => 32 | 310 => 33 | 333 => 36 | 329 => 37 | 330 => 38 | 334 => 39 | 335 => 40 | 336 => 41 | 344 => 42 | n => n, fun | 31 => 38 | 9 => 9 | 3 => 3 | 46 => 55 | 0 => 0 | 51 => 65 | 53 => 67 | 4 => 4 | 183 => 58 | 182 => 57 | 131 => 49 | 5 => 5 | 218 => 68 | 222 => 72 | 228 => 75 | 229 => 76 | n => n, fun | n => n⟩
theorem Try.laysSort : Go.Proofs.Lays.n190 Try.prog Try.laysSort_ren := {
  mixed := by kernel_rfl
  f125 := Try.func24.trans (congrArg some (by kernel_rfl))
  f128 := Try.func34.trans (congrArg some (by kernel_rfl))
  f129 := Try.func35.trans (congrArg some (by kernel_rfl))
  f190 := Try.func21.trans (congrArg some (by kernel_rfl))
  f258 := Try.func23.trans (congrArg some (by kernel_rfl))
  f302 := Try.func25.trans (congrArg some (by kernel_rfl))
  f303 := Try.func26.trans (congrArg some (by kernel_rfl))
  f304 := Try.func27.trans (congrArg some (by kernel_rfl))
  f305 := Try.func28.trans (congrArg some (by kernel_rfl))
  f306 := Try.func29.trans (congrArg some (by kernel_rfl))
  f307 := Try.func30.trans (congrArg some (by kernel_rfl))
  f308 := Try.func31.trans (congrArg some (by kernel_rfl))
  f309 := Try.func32.trans (congrArg some (by kernel_rfl))
  f310 := Try.func33.trans (congrArg some (by kernel_rfl))
  f329 := Try.func37.trans (congrArg some (by kernel_rfl))
  f330 := Try.func38.trans (congrArg some (by kernel_rfl))
  f333 := Try.func36.trans (congrArg some (by kernel_rfl))
  f334 := Try.func39.trans (congrArg some (by kernel_rfl))
  f335 := Try.func40.trans (congrArg some (by kernel_rfl))
  f336 := Try.func41.trans (congrArg some (by kernel_rfl))
  f344 := Try.func42.trans (congrArg some (by kernel_rfl))
  t0 := Try.underlying0
  a0 := Try.isAgg0
  z0 := Try.sizeOf0
  v0 := Try.zeroValue0
  t3 := Try.underlying3
  a3 := Try.isAgg3
  z3 := Try.sizeOf3
  v3 := Try.zeroValue3
  t4 := Try.underlying4
  a4 := Try.isAgg4
  z4 := Try.sizeOf4
  v4 := Try.zeroValue4
  t5 := Try.underlying5
  a5 := Try.isAgg5
  z5 := Try.sizeOf5
  v5 := Try.zeroValue5
  t9 := Try.underlying9
  a9 := Try.isAgg9
  z9 := Try.sizeOf9
  v9 := Try.zeroValue9
  t31 := Try.underlying38
  a31 := Try.isAgg38
  z31 := Try.sizeOf38
  v31 := Try.zeroValue38
  t46 := Try.underlying55
  a46 := Try.isAgg55
  z46 := Try.sizeOf55
  v46 := Try.zeroValue55
  t51 := Try.underlying65
  a51 := Try.isAgg65
  z51 := Try.sizeOf65
  v51 := Try.zeroValue65
  t53 := Try.underlying67
  a53 := Try.isAgg67
  z53 := Try.sizeOf67
  v53 := Try.zeroValue67
  t131 := Try.underlying49
  a131 := Try.isAgg49
  z131 := Try.sizeOf49
  v131 := Try.zeroValue49
  t182 := Try.underlying57
  a182 := Try.isAgg57
  z182 := Try.sizeOf57
  v182 := Try.zeroValue57
  t183 := Try.underlying58
  a183 := Try.isAgg58
  z183 := Try.sizeOf58
  v183 := Try.zeroValue58
  t218 := Try.underlying68
  a218 := Try.isAgg68
  z218 := Try.sizeOf68
  v218 := Try.zeroValue68
  t222 := Try.underlying72
  a222 := Try.isAgg72
  z222 := Try.sizeOf72
  v222 := Try.zeroValue72
  t228 := Try.underlying75
  a228 := Try.isAgg75
  z228 := Try.sizeOf75
  v228 := Try.zeroValue75
  t229 := Try.underlying76
  a229 := Try.isAgg76
  z229 := Try.sizeOf76
  v229 := Try.zeroValue76 }
end Go.Proofs
