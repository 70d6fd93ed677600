/-
  DERIVED: THE SHELF's CONTRACTS AT THIS DUMP, IN PLAIN WORDS (tools/lay-plain.mjs out of 'TryzSortShelf.lean', which tools/lay-shelf.mjs wrote): THE SAME DECLARATIONS UNDER THE SAME NAMES: 'import', 'namespace', 'open', 'def', 'theorem' AND NOTHING ELSE: no command of the shelf's: FOR A HAND-IN. Each laying: the table of numbers ('.._ren') and one theorem, a field a fact of the dump's own or the kernel's comparison; each contract: ONE APPLICATION.
-/
import Derived.Shelf.SlGeneric
import Derived.Shelf.SlSortCmp.NoneTotal
import Derived.Ground.SlsfProg
import Derived.Test.YtkiojenkpbkjpaaGreatDoorProg
set_option linter.unusedVariables false
set_option linter.unusedSimpArgs false
namespace Go.Proofs
open Go.Shelf
def Tryz.laysSF_ren : Go.Shelf.Ren := ⟨fun | 6 => 208 | 15 => 168 | 14 => 266 | 28 => 228 | 29 => 229 | 20 => 300 | 21 => 301 | 22 => 302 | 23 => 303 | 24 => 304 | 25 => 305 | 26 => 306 | 27 => 307 | 46 => 327 | 47 => 271 | 48 => 272 | 49 => 328 | 50 => 329 | 57 => 345 | n => n, fun | 22 => 36 | 24 => 66 | 25 => 261 | 3 => 3 | 39 => 280 | 0 => 0 | 53 => 328 | 55 => 330 | 4 => 4 | 46 => 322 | 45 => 321 | 50 => 140 | 5 => 5 | 9 => 9 | 66 => 364 | 70 => 368 | 76 => 397 | 77 => 398 | n => n, fun | n => n⟩
theorem Tryz.laysSF : Go.Proofs.SlLaysF0.n6 Tryz.prog Tryz.laysSF_ren := {
  mixed := by kernel_rfl
  f6 := ⟨Tryz.f208.name, by decide, Tryz.func208.trans (congrArg some (by kernel_rfl))⟩
  f14 := ⟨Tryz.f266.name, by decide, Tryz.func266.trans (congrArg some (by kernel_rfl))⟩
  f15 := Tryz.func168.trans (congrArg some (by kernel_rfl))
  f20 := ⟨Tryz.f300.name, by decide, Tryz.func300.trans (congrArg some (by kernel_rfl))⟩
  f21 := ⟨Tryz.f301.name, by decide, Tryz.func301.trans (congrArg some (by kernel_rfl))⟩
  f22 := ⟨Tryz.f302.name, by decide, Tryz.func302.trans (congrArg some (by kernel_rfl))⟩
  f23 := ⟨Tryz.f303.name, by decide, Tryz.func303.trans (congrArg some (by kernel_rfl))⟩
  f24 := ⟨Tryz.f304.name, by decide, Tryz.func304.trans (congrArg some (by kernel_rfl))⟩
  f25 := ⟨Tryz.f305.name, by decide, Tryz.func305.trans (congrArg some (by kernel_rfl))⟩
  f26 := ⟨Tryz.f306.name, by decide, Tryz.func306.trans (congrArg some (by kernel_rfl))⟩
  f27 := ⟨Tryz.f307.name, by decide, Tryz.func307.trans (congrArg some (by kernel_rfl))⟩
  f28 := Tryz.func228.trans (congrArg some (by kernel_rfl))
  f29 := Tryz.func229.trans (congrArg some (by kernel_rfl))
  f46 := ⟨Tryz.f327.name, by decide, Tryz.func327.trans (congrArg some (by kernel_rfl))⟩
  f47 := Tryz.func271.trans (congrArg some (by kernel_rfl))
  f48 := Tryz.func272.trans (congrArg some (by kernel_rfl))
  f49 := ⟨Tryz.f328.name, by decide, Tryz.func328.trans (congrArg some (by kernel_rfl))⟩
  f50 := ⟨Tryz.f329.name, by decide, Tryz.func329.trans (congrArg some (by kernel_rfl))⟩
  f57 := ⟨Tryz.f345.name, by decide, Tryz.func345.trans (congrArg some (by kernel_rfl))⟩
  t0 := Tryz.underlying0
  a0 := Tryz.isAgg0
  z0 := Tryz.sizeOf0
  v0 := Tryz.zeroValue0
  t3 := Tryz.underlying3
  a3 := Tryz.isAgg3
  z3 := Tryz.sizeOf3
  v3 := Tryz.zeroValue3
  t4 := Tryz.underlying4
  a4 := Tryz.isAgg4
  z4 := Tryz.sizeOf4
  v4 := Tryz.zeroValue4
  t5 := Tryz.underlying5
  a5 := Tryz.isAgg5
  z5 := Tryz.sizeOf5
  v5 := Tryz.zeroValue5
  t9 := Tryz.underlying9
  a9 := Tryz.isAgg9
  z9 := Tryz.sizeOf9
  v9 := Tryz.zeroValue9
  t22 := Tryz.underlying36
  a22 := Tryz.isAgg36
  z22 := Tryz.sizeOf36
  v22 := Tryz.zeroValue36
  t25 := Tryz.underlying261
  a25 := Tryz.isAgg261
  z25 := Tryz.sizeOf261
  v25 := Tryz.zeroValue261
  t39 := Tryz.underlying280
  a39 := Tryz.isAgg280
  z39 := Tryz.sizeOf280
  v39 := Tryz.zeroValue280
  t45 := Tryz.underlying321
  a45 := Tryz.isAgg321
  z45 := Tryz.sizeOf321
  v45 := Tryz.zeroValue321
  t46 := Tryz.underlying322
  a46 := Tryz.isAgg322
  z46 := Tryz.sizeOf322
  v46 := Tryz.zeroValue322
  t50 := Tryz.underlying140
  a50 := Tryz.isAgg140
  z50 := Tryz.sizeOf140
  v50 := Tryz.zeroValue140
  t53 := Tryz.underlying328
  a53 := Tryz.isAgg328
  z53 := Tryz.sizeOf328
  v53 := Tryz.zeroValue328
  t55 := Tryz.underlying330
  a55 := Tryz.isAgg330
  z55 := Tryz.sizeOf330
  v55 := Tryz.zeroValue330
  t66 := Tryz.underlying364
  a66 := Tryz.isAgg364
  z66 := Tryz.sizeOf364
  v66 := Tryz.zeroValue364
  t70 := Tryz.underlying368
  a70 := Tryz.isAgg368
  z70 := Tryz.sizeOf368
  v70 := Tryz.zeroValue368
  t76 := Tryz.underlying397
  a76 := Tryz.isAgg397
  z76 := Tryz.sizeOf397
  v76 := Tryz.zeroValue397
  t77 := Tryz.underlying398
  a77 := Tryz.isAgg398
  z77 := Tryz.sizeOf398
  v77 := Tryz.zeroValue398 }
end Go.Proofs
