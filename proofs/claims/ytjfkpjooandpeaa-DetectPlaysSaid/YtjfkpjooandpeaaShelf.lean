/-
  DERIVED: THE SHELF's CONTRACTS AT THIS DUMP, IN PLAIN WORDS (tools/lay-plain.mjs out of 'YtjfkpjooandpeaaShelf.lean', which tools/lay-shelf.mjs wrote): THE SAME DECLARATIONS UNDER THE SAME NAMES: 'import', 'namespace', 'open', 'def', 'theorem' AND NOTHING ELSE: no command of the shelf's: FOR A HAND-IN. Each laying: the table of numbers ('.._ren') and one theorem, a field a fact of the dump's own or the kernel's comparison; each contract: ONE APPLICATION.
-/
import Derived.Shelf.Sort.Plain
import Derived.Shelf.Slices.In.SortNone
import Derived.Ground.NamesProg
import Derived.Test.YtjfkpjooandpeaaProg
namespace Go.Proofs
open Go.Shelf
def Try.laysSort_ren : Go.Shelf.Ren := ⟨fun | 190 => 22 | 125 => 26 | 258 => 25 | 128 => 37 | 129 => 38 | 302 => 28 | 303 => 29 | 304 => 30 | 305 => 31 | 306 => 32 | 307 => 33 | 308 => 34 | 309 => 35 | 310 => 36 | 333 => 39 | 329 => 40 | 330 => 41 | 334 => 42 | 335 => 43 | 336 => 44 | 344 => 45 | n => n, fun | 31 => 26 | 9 => 9 | 3 => 3 | 46 => 64 | 0 => 0 | 51 => 75 | 53 => 77 | 4 => 4 | 183 => 68 | 182 => 67 | 131 => 56 | 5 => 5 | 218 => 78 | 222 => 82 | 228 => 84 | 229 => 85 | n => n, fun | n => n⟩
theorem Try.laysSort : Go.Proofs.Lays.n190 Try.prog Try.laysSort_ren := {
  mixed := by kernel_rfl
  f125 := Try.func26.trans (congrArg some (by kernel_rfl))
  f128 := Try.func37.trans (congrArg some (by kernel_rfl))
  f129 := Try.func38.trans (congrArg some (by kernel_rfl))
  f190 := Try.func22.trans (congrArg some (by kernel_rfl))
  f258 := Try.func25.trans (congrArg some (by kernel_rfl))
  f302 := Try.func28.trans (congrArg some (by kernel_rfl))
  f303 := Try.func29.trans (congrArg some (by kernel_rfl))
  f304 := Try.func30.trans (congrArg some (by kernel_rfl))
  f305 := Try.func31.trans (congrArg some (by kernel_rfl))
  f306 := Try.func32.trans (congrArg some (by kernel_rfl))
  f307 := Try.func33.trans (congrArg some (by kernel_rfl))
  f308 := Try.func34.trans (congrArg some (by kernel_rfl))
  f309 := Try.func35.trans (congrArg some (by kernel_rfl))
  f310 := Try.func36.trans (congrArg some (by kernel_rfl))
  f329 := Try.func40.trans (congrArg some (by kernel_rfl))
  f330 := Try.func41.trans (congrArg some (by kernel_rfl))
  f333 := Try.func39.trans (congrArg some (by kernel_rfl))
  f334 := Try.func42.trans (congrArg some (by kernel_rfl))
  f335 := Try.func43.trans (congrArg some (by kernel_rfl))
  f336 := Try.func44.trans (congrArg some (by kernel_rfl))
  f344 := Try.func45.trans (congrArg some (by kernel_rfl))
  t0 := Try.underlying0
  a0 := Try.isAgg0
  z0 := Try.sizeOf0
  v0 := Try.zeroValue0
  t3 := Try.underlying3
  a3 := Try.isAgg3
  z3 := Try.sizeOf3
  v3 := Try.zeroValue3
  t4 := Try.underlying4
  a4 := Try.isAgg4
  z4 := Try.sizeOf4
  v4 := Try.zeroValue4
  t5 := Try.underlying5
  a5 := Try.isAgg5
  z5 := Try.sizeOf5
  v5 := Try.zeroValue5
  t9 := Try.underlying9
  a9 := Try.isAgg9
  z9 := Try.sizeOf9
  v9 := Try.zeroValue9
  t31 := Try.underlying26
  a31 := Try.isAgg26
  z31 := Try.sizeOf26
  v31 := Try.zeroValue26
  t46 := Try.underlying64
  a46 := Try.isAgg64
  z46 := Try.sizeOf64
  v46 := Try.zeroValue64
  t51 := Try.underlying75
  a51 := Try.isAgg75
  z51 := Try.sizeOf75
  v51 := Try.zeroValue75
  t53 := Try.underlying77
  a53 := Try.isAgg77
  z53 := Try.sizeOf77
  v53 := Try.zeroValue77
  t131 := Try.underlying56
  a131 := Try.isAgg56
  z131 := Try.sizeOf56
  v131 := Try.zeroValue56
  t182 := Try.underlying67
  a182 := Try.isAgg67
  z182 := Try.sizeOf67
  v182 := Try.zeroValue67
  t183 := Try.underlying68
  a183 := Try.isAgg68
  z183 := Try.sizeOf68
  v183 := Try.zeroValue68
  t218 := Try.underlying78
  a218 := Try.isAgg78
  z218 := Try.sizeOf78
  v218 := Try.zeroValue78
  t222 := Try.underlying82
  a222 := Try.isAgg82
  z222 := Try.sizeOf82
  v222 := Try.zeroValue82
  t228 := Try.underlying84
  a228 := Try.isAgg84
  z228 := Try.sizeOf84
  v228 := Try.zeroValue84
  t229 := Try.underlying85
  a229 := Try.isAgg85
  z229 := Try.sizeOf85
  v229 := Try.zeroValue85 }
end Go.Proofs
