/-
  DERIVED: THE SHELF's CONTRACTS AT THIS DUMP, IN PLAIN WORDS (tools/lay-plain.mjs out of 'TryzShelfB.lean', which tools/lay-shelf.mjs wrote): THE SAME DECLARATIONS UNDER THE SAME NAMES: 'import', 'namespace', 'open', 'def', 'theorem' AND NOTHING ELSE: no command of the shelf's: FOR A HAND-IN. Each laying: the table of numbers ('.._ren') and one theorem, a field a fact of the dump's own or the kernel's comparison; each contract: ONE APPLICATION.
-/
import Derived.Shelf.SlSortCmp.InsertionK
import Derived.Shelf.SlicesQ.Contains
import Derived.Shelf.SlicesQ.IndexFunc
import Derived.Ground.SlgqProg
import Derived.Ground.SlgfProg
import Derived.Ground.SlsfProg
import Derived.Shelf.SlGeneric
import Derived.Test.YtoemmpfcnpdblaaGreatDoorProg
import Derived.Shelf.SlSortCmp.WholeK
set_option linter.all false
namespace Go.Proofs
open Go.Shelf
def Tryz.insertionLicense_ren : Go.Shelf.Ren := ⟨fun | 20 => 209 | n => n, fun | 24 => 60 | 22 => 37 | 3 => 3 | 25 => 131 | 4 => 4 | 0 => 0 | n => n, fun | n => n⟩
theorem Tryz.insertionLicense : Go.Proofs.SlLaysF0.n20 Tryz.prog Tryz.insertionLicense_ren := {
  mixed := by kernel_rfl
  f20 := ⟨Tryz.f209.name, by decide, Tryz.func209.trans (congrArg some (by kernel_rfl))⟩
  t0 := Tryz.underlying0
  a0 := Tryz.isAgg0
  z0 := Tryz.sizeOf0
  v0 := Tryz.zeroValue0
  t3 := Tryz.underlying3
  a3 := Tryz.isAgg3
  z3 := Tryz.sizeOf3
  v3 := Tryz.zeroValue3
  t4 := Tryz.underlying4
  a4 := Tryz.isAgg4
  z4 := Tryz.sizeOf4
  v4 := Tryz.zeroValue4
  t22 := Tryz.underlying37
  a22 := Tryz.isAgg37
  z22 := Tryz.sizeOf37
  v22 := Tryz.zeroValue37
  t25 := Tryz.underlying131
  a25 := Tryz.isAgg131
  z25 := Tryz.sizeOf131
  v25 := Tryz.zeroValue131 }
def Tryz.insertionExc_ren : Go.Shelf.Ren := ⟨fun | 20 => 211 | n => n, fun | 24 => 65 | 22 => 38 | 3 => 3 | 25 => 133 | 4 => 4 | 0 => 0 | n => n, fun | n => n⟩
theorem Tryz.insertionExc : Go.Proofs.SlLaysF0.n20 Tryz.prog Tryz.insertionExc_ren := {
  mixed := by kernel_rfl
  f20 := ⟨Tryz.f211.name, by decide, Tryz.func211.trans (congrArg some (by kernel_rfl))⟩
  t0 := Tryz.underlying0
  a0 := Tryz.isAgg0
  z0 := Tryz.sizeOf0
  v0 := Tryz.zeroValue0
  t3 := Tryz.underlying3
  a3 := Tryz.isAgg3
  z3 := Tryz.sizeOf3
  v3 := Tryz.zeroValue3
  t4 := Tryz.underlying4
  a4 := Tryz.isAgg4
  z4 := Tryz.sizeOf4
  v4 := Tryz.zeroValue4
  t22 := Tryz.underlying38
  a22 := Tryz.isAgg38
  z22 := Tryz.sizeOf38
  v22 := Tryz.zeroValue38
  t25 := Tryz.underlying133
  a25 := Tryz.isAgg133
  z25 := Tryz.sizeOf133
  v25 := Tryz.zeroValue133 }
def Tryz.insertionClause_ren : Go.Shelf.Ren := ⟨fun | 20 => 213 | n => n, fun | 24 => 86 | 22 => 39 | 3 => 3 | 25 => 135 | 4 => 4 | 0 => 0 | n => n, fun | n => n⟩
theorem Tryz.insertionClause : Go.Proofs.SlLaysF0.n20 Tryz.prog Tryz.insertionClause_ren := {
  mixed := by kernel_rfl
  f20 := ⟨Tryz.f213.name, by decide, Tryz.func213.trans (congrArg some (by kernel_rfl))⟩
  t0 := Tryz.underlying0
  a0 := Tryz.isAgg0
  z0 := Tryz.sizeOf0
  v0 := Tryz.zeroValue0
  t3 := Tryz.underlying3
  a3 := Tryz.isAgg3
  z3 := Tryz.sizeOf3
  v3 := Tryz.zeroValue3
  t4 := Tryz.underlying4
  a4 := Tryz.isAgg4
  z4 := Tryz.sizeOf4
  v4 := Tryz.zeroValue4
  t22 := Tryz.underlying39
  a22 := Tryz.isAgg39
  z22 := Tryz.sizeOf39
  v22 := Tryz.zeroValue39
  t25 := Tryz.underlying135
  a25 := Tryz.isAgg135
  z25 := Tryz.sizeOf135
  v25 := Tryz.zeroValue135 }
def Tryz.insertionPair_ren : Go.Shelf.Ren := ⟨fun | 20 => 215 | n => n, fun | 24 => 88 | 22 => 40 | 3 => 3 | 25 => 137 | 4 => 4 | 0 => 0 | n => n, fun | n => n⟩
theorem Tryz.insertionPair : Go.Proofs.SlLaysF0.n20 Tryz.prog Tryz.insertionPair_ren := {
  mixed := by kernel_rfl
  f20 := ⟨Tryz.f215.name, by decide, Tryz.func215.trans (congrArg some (by kernel_rfl))⟩
  t0 := Tryz.underlying0
  a0 := Tryz.isAgg0
  z0 := Tryz.sizeOf0
  v0 := Tryz.zeroValue0
  t3 := Tryz.underlying3
  a3 := Tryz.isAgg3
  z3 := Tryz.sizeOf3
  v3 := Tryz.zeroValue3
  t4 := Tryz.underlying4
  a4 := Tryz.isAgg4
  z4 := Tryz.sizeOf4
  v4 := Tryz.zeroValue4
  t22 := Tryz.underlying40
  a22 := Tryz.isAgg40
  z22 := Tryz.sizeOf40
  v22 := Tryz.zeroValue40
  t25 := Tryz.underlying137
  a25 := Tryz.isAgg137
  z25 := Tryz.sizeOf137
  v25 := Tryz.zeroValue137 }
end Go.Proofs
namespace Go.Proofs
open Go.Shelf
def Tryz.sortLicense_ren : Go.Shelf.Ren := ⟨fun | 6 => 223 | 15 => 198 | 14 => 267 | 28 => 244 | 29 => 245 | 20 => 209 | 21 => 294 | 22 => 295 | 23 => 296 | 24 => 297 | 25 => 298 | 26 => 299 | 27 => 300 | 46 => 314 | 47 => 274 | 48 => 275 | 49 => 315 | 50 => 316 | 57 => 323 | n => n, fun | 22 => 37 | 24 => 60 | 25 => 131 | 3 => 3 | 39 => 203 | 0 => 0 | 53 => 236 | 55 => 238 | 4 => 4 | 46 => 230 | 45 => 229 | 50 => 161 | 5 => 5 | 9 => 9 | 66 => 262 | 70 => 266 | 76 => 278 | 77 => 141 | n => n, fun | n => n⟩
theorem Tryz.sortLicense : Go.Proofs.SlLaysF0.n6 Tryz.prog Tryz.sortLicense_ren := {
  mixed := by kernel_rfl
  f6 := ⟨Tryz.f223.name, by decide, Tryz.func223.trans (congrArg some (by kernel_rfl))⟩
  f14 := ⟨Tryz.f267.name, by decide, Tryz.func267.trans (congrArg some (by kernel_rfl))⟩
  f15 := Tryz.func198.trans (congrArg some (by kernel_rfl))
  f20 := ⟨Tryz.f209.name, by decide, Tryz.func209.trans (congrArg some (by kernel_rfl))⟩
  f21 := ⟨Tryz.f294.name, by decide, Tryz.func294.trans (congrArg some (by kernel_rfl))⟩
  f22 := ⟨Tryz.f295.name, by decide, Tryz.func295.trans (congrArg some (by kernel_rfl))⟩
  f23 := ⟨Tryz.f296.name, by decide, Tryz.func296.trans (congrArg some (by kernel_rfl))⟩
  f24 := ⟨Tryz.f297.name, by decide, Tryz.func297.trans (congrArg some (by kernel_rfl))⟩
  f25 := ⟨Tryz.f298.name, by decide, Tryz.func298.trans (congrArg some (by kernel_rfl))⟩
  f26 := ⟨Tryz.f299.name, by decide, Tryz.func299.trans (congrArg some (by kernel_rfl))⟩
  f27 := ⟨Tryz.f300.name, by decide, Tryz.func300.trans (congrArg some (by kernel_rfl))⟩
  f28 := Tryz.func244.trans (congrArg some (by kernel_rfl))
  f29 := Tryz.func245.trans (congrArg some (by kernel_rfl))
  f46 := ⟨Tryz.f314.name, by decide, Tryz.func314.trans (congrArg some (by kernel_rfl))⟩
  f47 := Tryz.func274.trans (congrArg some (by kernel_rfl))
  f48 := Tryz.func275.trans (congrArg some (by kernel_rfl))
  f49 := ⟨Tryz.f315.name, by decide, Tryz.func315.trans (congrArg some (by kernel_rfl))⟩
  f50 := ⟨Tryz.f316.name, by decide, Tryz.func316.trans (congrArg some (by kernel_rfl))⟩
  f57 := ⟨Tryz.f323.name, by decide, Tryz.func323.trans (congrArg some (by kernel_rfl))⟩
  t0 := Tryz.underlying0
  a0 := Tryz.isAgg0
  z0 := Tryz.sizeOf0
  v0 := Tryz.zeroValue0
  t3 := Tryz.underlying3
  a3 := Tryz.isAgg3
  z3 := Tryz.sizeOf3
  v3 := Tryz.zeroValue3
  t4 := Tryz.underlying4
  a4 := Tryz.isAgg4
  z4 := Tryz.sizeOf4
  v4 := Tryz.zeroValue4
  t5 := Tryz.underlying5
  a5 := Tryz.isAgg5
  z5 := Tryz.sizeOf5
  v5 := Tryz.zeroValue5
  t9 := Tryz.underlying9
  a9 := Tryz.isAgg9
  z9 := Tryz.sizeOf9
  v9 := Tryz.zeroValue9
  t22 := Tryz.underlying37
  a22 := Tryz.isAgg37
  z22 := Tryz.sizeOf37
  v22 := Tryz.zeroValue37
  t25 := Tryz.underlying131
  a25 := Tryz.isAgg131
  z25 := Tryz.sizeOf131
  v25 := Tryz.zeroValue131
  t39 := Tryz.underlying203
  a39 := Tryz.isAgg203
  z39 := Tryz.sizeOf203
  v39 := Tryz.zeroValue203
  t45 := Tryz.underlying229
  a45 := Tryz.isAgg229
  z45 := Tryz.sizeOf229
  v45 := Tryz.zeroValue229
  t46 := Tryz.underlying230
  a46 := Tryz.isAgg230
  z46 := Tryz.sizeOf230
  v46 := Tryz.zeroValue230
  t50 := Tryz.underlying161
  a50 := Tryz.isAgg161
  z50 := Tryz.sizeOf161
  v50 := Tryz.zeroValue161
  t53 := Tryz.underlying236
  a53 := Tryz.isAgg236
  z53 := Tryz.sizeOf236
  v53 := Tryz.zeroValue236
  t55 := Tryz.underlying238
  a55 := Tryz.isAgg238
  z55 := Tryz.sizeOf238
  v55 := Tryz.zeroValue238
  t66 := Tryz.underlying262
  a66 := Tryz.isAgg262
  z66 := Tryz.sizeOf262
  v66 := Tryz.zeroValue262
  t70 := Tryz.underlying266
  a70 := Tryz.isAgg266
  z70 := Tryz.sizeOf266
  v70 := Tryz.zeroValue266
  t76 := Tryz.underlying278
  a76 := Tryz.isAgg278
  z76 := Tryz.sizeOf278
  v76 := Tryz.zeroValue278
  t77 := Tryz.underlying141
  a77 := Tryz.isAgg141
  z77 := Tryz.sizeOf141
  v77 := Tryz.zeroValue141 }
end Go.Proofs
