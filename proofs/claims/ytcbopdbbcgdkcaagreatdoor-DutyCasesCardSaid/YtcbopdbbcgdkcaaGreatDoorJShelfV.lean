/-
  DERIVED: THE SHELF's CONTRACTS AT THIS DUMP, IN PLAIN WORDS (tools/lay-plain.mjs out of 'TryzShelfB.lean', which tools/lay-shelf.mjs wrote): THE SAME DECLARATIONS UNDER THE SAME NAMES: 'import', 'namespace', 'open', 'def', 'theorem' AND NOTHING ELSE: no command of the shelf's: FOR A HAND-IN. Each laying: the table of numbers ('.._ren') and one theorem, a field a fact of the dump's own or the kernel's comparison; each contract: ONE APPLICATION.
-/
import Derived.Shelf.SlSortCmp.InsertionK
import Derived.Shelf.SlicesQ.Contains
import Derived.Shelf.SlicesQ.IndexFunc
import Derived.Ground.SlgqProg
import Derived.Ground.SlgfProg
import Derived.Ground.SlsfProg
import Derived.Shelf.SlGeneric
import Derived.Test.YtcbopdbbcgdkcaaGreatDoorProg
import Derived.Shelf.SlSortCmp.WholeK
set_option linter.all false
namespace Go.Proofs
open Go.Shelf
def Tryz.insertionLicense_ren:Go.Shelf.Ren:=⟨fun | 20=>200 | n=>n,fun | 24=>106 | 22=>22 | 3=>3 | 25=>142 | 4=>4 | 0=>0 | n=>n,fun | n=>n⟩
theorem Tryz.insertionLicense:Go.Proofs.SlLaysF0.n20 Tryz.prog Tryz.insertionLicense_ren:={
  mixed:=by kernel_rfl
  f20:=⟨Tryz.f200.name,by decide,Tryz.func200.trans (congrArg some (by kernel_rfl))⟩
  t0:=Tryz.underlying0
  a0:=Tryz.isAgg0
  z0:=Tryz.sizeOf0
  v0:=Tryz.zeroValue0
  t3:=Tryz.underlying3
  a3:=Tryz.isAgg3
  z3:=Tryz.sizeOf3
  v3:=Tryz.zeroValue3
  t4:=Tryz.underlying4
  a4:=Tryz.isAgg4
  z4:=Tryz.sizeOf4
  v4:=Tryz.zeroValue4
  t22:=Tryz.underlying22
  a22:=Tryz.isAgg22
  z22:=Tryz.sizeOf22
  v22:=Tryz.zeroValue22
  t25:=Tryz.underlying142
  a25:=Tryz.isAgg142
  z25:=Tryz.sizeOf142
  v25:=Tryz.zeroValue142 }
def Tryz.insertionExc_ren:Go.Shelf.Ren:=⟨fun | 20=>202 | n=>n,fun | 24=>145 | 22=>23 | 3=>3 | 25=>146 | 4=>4 | 0=>0 | n=>n,fun | n=>n⟩
theorem Tryz.insertionExc:Go.Proofs.SlLaysF0.n20 Tryz.prog Tryz.insertionExc_ren:={
  mixed:=by kernel_rfl
  f20:=⟨Tryz.f202.name,by decide,Tryz.func202.trans (congrArg some (by kernel_rfl))⟩
  t0:=Tryz.underlying0
  a0:=Tryz.isAgg0
  z0:=Tryz.sizeOf0
  v0:=Tryz.zeroValue0
  t3:=Tryz.underlying3
  a3:=Tryz.isAgg3
  z3:=Tryz.sizeOf3
  v3:=Tryz.zeroValue3
  t4:=Tryz.underlying4
  a4:=Tryz.isAgg4
  z4:=Tryz.sizeOf4
  v4:=Tryz.zeroValue4
  t22:=Tryz.underlying23
  a22:=Tryz.isAgg23
  z22:=Tryz.sizeOf23
  v22:=Tryz.zeroValue23
  t25:=Tryz.underlying146
  a25:=Tryz.isAgg146
  z25:=Tryz.sizeOf146
  v25:=Tryz.zeroValue146 }
def Tryz.insertionClause_ren:Go.Shelf.Ren:=⟨fun | 20=>204 | n=>n,fun | 24=>74 | 22=>24 | 3=>3 | 25=>148 | 4=>4 | 0=>0 | n=>n,fun | n=>n⟩
theorem Tryz.insertionClause:Go.Proofs.SlLaysF0.n20 Tryz.prog Tryz.insertionClause_ren:={
  mixed:=by kernel_rfl
  f20:=⟨Tryz.f204.name,by decide,Tryz.func204.trans (congrArg some (by kernel_rfl))⟩
  t0:=Tryz.underlying0
  a0:=Tryz.isAgg0
  z0:=Tryz.sizeOf0
  v0:=Tryz.zeroValue0
  t3:=Tryz.underlying3
  a3:=Tryz.isAgg3
  z3:=Tryz.sizeOf3
  v3:=Tryz.zeroValue3
  t4:=Tryz.underlying4
  a4:=Tryz.isAgg4
  z4:=Tryz.sizeOf4
  v4:=Tryz.zeroValue4
  t22:=Tryz.underlying24
  a22:=Tryz.isAgg24
  z22:=Tryz.sizeOf24
  v22:=Tryz.zeroValue24
  t25:=Tryz.underlying148
  a25:=Tryz.isAgg148
  z25:=Tryz.sizeOf148
  v25:=Tryz.zeroValue148 }
def Tryz.insertionPair_ren:Go.Shelf.Ren:=⟨fun | 20=>206 | n=>n,fun | 24=>151 | 22=>25 | 3=>3 | 25=>152 | 4=>4 | 0=>0 | n=>n,fun | n=>n⟩
theorem Tryz.insertionPair:Go.Proofs.SlLaysF0.n20 Tryz.prog Tryz.insertionPair_ren:={
  mixed:=by kernel_rfl
  f20:=⟨Tryz.f206.name,by decide,Tryz.func206.trans (congrArg some (by kernel_rfl))⟩
  t0:=Tryz.underlying0
  a0:=Tryz.isAgg0
  z0:=Tryz.sizeOf0
  v0:=Tryz.zeroValue0
  t3:=Tryz.underlying3
  a3:=Tryz.isAgg3
  z3:=Tryz.sizeOf3
  v3:=Tryz.zeroValue3
  t4:=Tryz.underlying4
  a4:=Tryz.isAgg4
  z4:=Tryz.sizeOf4
  v4:=Tryz.zeroValue4
  t22:=Tryz.underlying25
  a22:=Tryz.isAgg25
  z22:=Tryz.sizeOf25
  v22:=Tryz.zeroValue25
  t25:=Tryz.underlying152
  a25:=Tryz.isAgg152
  z25:=Tryz.sizeOf152
  v25:=Tryz.zeroValue152 }
end Go.Proofs
namespace Go.Proofs
open Go.Shelf
def Tryz.sortLicense_ren:Go.Shelf.Ren:=⟨fun | 6=>220 | 15=>256 | 14=>255 | 28=>287 | 29=>288 | 20=>200 | 21=>280 | 22=>281 | 23=>282 | 24=>283 | 25=>284 | 26=>285 | 27=>286 | 46=>316 | 47=>317 | 48=>318 | 49=>319 | 50=>320 | 57=>333 | n=>n,fun | 22=>22 | 24=>106 | 25=>142 | 3=>3 | 39=>263 | 0=>0 | 53=>292 | 55=>294 | 4=>4 | 46=>286 | 45=>285 | 50=>198 | 5=>5 | 9=>9 | 66=>321 | 70=>325 | 76=>338 | 77=>154 | n=>n,fun | n=>n⟩
theorem Tryz.sortLicense:Go.Proofs.SlLaysF0.n6 Tryz.prog Tryz.sortLicense_ren:={
  mixed:=by kernel_rfl
  f6:=⟨Tryz.f220.name,by decide,Tryz.func220.trans (congrArg some (by kernel_rfl))⟩
  f14:=⟨Tryz.f255.name,by decide,Tryz.func255.trans (congrArg some (by kernel_rfl))⟩
  f15:=Tryz.func256.trans (congrArg some (by kernel_rfl))
  f20:=⟨Tryz.f200.name,by decide,Tryz.func200.trans (congrArg some (by kernel_rfl))⟩
  f21:=⟨Tryz.f280.name,by decide,Tryz.func280.trans (congrArg some (by kernel_rfl))⟩
  f22:=⟨Tryz.f281.name,by decide,Tryz.func281.trans (congrArg some (by kernel_rfl))⟩
  f23:=⟨Tryz.f282.name,by decide,Tryz.func282.trans (congrArg some (by kernel_rfl))⟩
  f24:=⟨Tryz.f283.name,by decide,Tryz.func283.trans (congrArg some (by kernel_rfl))⟩
  f25:=⟨Tryz.f284.name,by decide,Tryz.func284.trans (congrArg some (by kernel_rfl))⟩
  f26:=⟨Tryz.f285.name,by decide,Tryz.func285.trans (congrArg some (by kernel_rfl))⟩
  f27:=⟨Tryz.f286.name,by decide,Tryz.func286.trans (congrArg some (by kernel_rfl))⟩
  f28:=Tryz.func287.trans (congrArg some (by kernel_rfl))
  f29:=Tryz.func288.trans (congrArg some (by kernel_rfl))
  f46:=⟨Tryz.f316.name,by decide,Tryz.func316.trans (congrArg some (by kernel_rfl))⟩
  f47:=Tryz.func317.trans (congrArg some (by kernel_rfl))
  f48:=Tryz.func318.trans (congrArg some (by kernel_rfl))
  f49:=⟨Tryz.f319.name,by decide,Tryz.func319.trans (congrArg some (by kernel_rfl))⟩
  f50:=⟨Tryz.f320.name,by decide,Tryz.func320.trans (congrArg some (by kernel_rfl))⟩
  f57:=⟨Tryz.f333.name,by decide,Tryz.func333.trans (congrArg some (by kernel_rfl))⟩
  t0:=Tryz.underlying0
  a0:=Tryz.isAgg0
  z0:=Tryz.sizeOf0
  v0:=Tryz.zeroValue0
  t3:=Tryz.underlying3
  a3:=Tryz.isAgg3
  z3:=Tryz.sizeOf3
  v3:=Tryz.zeroValue3
  t4:=Tryz.underlying4
  a4:=Tryz.isAgg4
  z4:=Tryz.sizeOf4
  v4:=Tryz.zeroValue4
  t5:=Tryz.underlying5
  a5:=Tryz.isAgg5
  z5:=Tryz.sizeOf5
  v5:=Tryz.zeroValue5
  t9:=Tryz.underlying9
  a9:=Tryz.isAgg9
  z9:=Tryz.sizeOf9
  v9:=Tryz.zeroValue9
  t22:=Tryz.underlying22
  a22:=Tryz.isAgg22
  z22:=Tryz.sizeOf22
  v22:=Tryz.zeroValue22
  t25:=Tryz.underlying142
  a25:=Tryz.isAgg142
  z25:=Tryz.sizeOf142
  v25:=Tryz.zeroValue142
  t39:=Tryz.underlying263
  a39:=Tryz.isAgg263
  z39:=Tryz.sizeOf263
  v39:=Tryz.zeroValue263
  t45:=Tryz.underlying285
  a45:=Tryz.isAgg285
  z45:=Tryz.sizeOf285
  v45:=Tryz.zeroValue285
  t46:=Tryz.underlying286
  a46:=Tryz.isAgg286
  z46:=Tryz.sizeOf286
  v46:=Tryz.zeroValue286
  t50:=Tryz.underlying198
  a50:=Tryz.isAgg198
  z50:=Tryz.sizeOf198
  v50:=Tryz.zeroValue198
  t53:=Tryz.underlying292
  a53:=Tryz.isAgg292
  z53:=Tryz.sizeOf292
  v53:=Tryz.zeroValue292
  t55:=Tryz.underlying294
  a55:=Tryz.isAgg294
  z55:=Tryz.sizeOf294
  v55:=Tryz.zeroValue294
  t66:=Tryz.underlying321
  a66:=Tryz.isAgg321
  z66:=Tryz.sizeOf321
  v66:=Tryz.zeroValue321
  t70:=Tryz.underlying325
  a70:=Tryz.isAgg325
  z70:=Tryz.sizeOf325
  v70:=Tryz.zeroValue325
  t76:=Tryz.underlying338
  a76:=Tryz.isAgg338
  z76:=Tryz.sizeOf338
  v76:=Tryz.zeroValue338
  t77:=Tryz.underlying154
  a77:=Tryz.isAgg154
  z77:=Tryz.sizeOf154
  v77:=Tryz.zeroValue154 }
end Go.Proofs
