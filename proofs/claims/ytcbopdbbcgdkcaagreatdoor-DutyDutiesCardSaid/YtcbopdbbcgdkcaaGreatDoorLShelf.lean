/- Lemmas. -/
import Derived.Shelf.Strings.SlTrimAscii
import Derived.Shelf.Strings.OnBuilder
import Derived.Shelf.Small.Wraps
import Derived.Shelf.Strconv.Itoa3
import Derived.Shelf.Strconv.AtoiAll
import Derived.Shelf.Strings.Shaped
import Derived.Shelf.Strings.SplitShaped
import Derived.Shelf.Strings.Explode
import Derived.Shelf.Strings.FuncGrows
import Derived.Shelf.Strings.BuilderCap
import Derived.Shelf.Slices.Turned
import Derived.Shelf.Slices.Clone
import Derived.Shelf.Slices.SearchI
import Derived.Shelf.Slices.Empties2
import Derived.Shelf.SlicesE.Clone
import Derived.Shelf.SlicesE.DeleteFunc
import Derived.Test.YtcbopdbbcgdkcaaGreatDoorProg
set_option linter.all false
namespace Go.Proofs
open Go.Shelf
def Tryz.lays156_ren:Go.Shelf.Ren:=⟨fun | 156=>196 | 165=>238 | 166=>239 | 169=>240 | 240=>270 | 241=>271 | 276=>312 | 277=>313 | n=>n,fun | 31=>36 | 9=>9 | 3=>3 | 4=>4 | 0=>0 | 20=>20 | 72=>258 | 76=>254 | 70=>256 | 37=>197 | 75=>253 | 127=>281 | 164=>317 | 5=>5 | 80=>260 | n=>n,fun | n=>n⟩
theorem Tryz.lays156:Go.Proofs.Lays.n156 Tryz.prog Tryz.lays156_ren:={
  mixed:=by kernel_rfl
  f156:=Tryz.func196.trans (congrArg some (by kernel_rfl))
  f165:=Tryz.func238.trans (congrArg some (by kernel_rfl))
  f166:=Tryz.func239.trans (congrArg some (by kernel_rfl))
  f169:=Tryz.func240.trans (congrArg some (by kernel_rfl))
  f240:=Tryz.func270.trans (congrArg some (by kernel_rfl))
  f241:=Tryz.func271.trans (congrArg some (by kernel_rfl))
  f276:=Tryz.func312.trans (congrArg some (by kernel_rfl))
  f277:=Tryz.func313.trans (congrArg some (by kernel_rfl))
  t0:=Tryz.underlying0
  a0:=Tryz.isAgg0
  z0:=Tryz.sizeOf0
  v0:=Tryz.zeroValue0
  t3:=Tryz.underlying3
  a3:=Tryz.isAgg3
  z3:=Tryz.sizeOf3
  v3:=Tryz.zeroValue3
  t4:=Tryz.underlying4
  a4:=Tryz.isAgg4
  z4:=Tryz.sizeOf4
  v4:=Tryz.zeroValue4
  t9:=Tryz.underlying9
  a9:=Tryz.isAgg9
  z9:=Tryz.sizeOf9
  v9:=Tryz.zeroValue9
  t20:=Tryz.underlying20
  a20:=Tryz.isAgg20
  z20:=Tryz.sizeOf20
  v20:=Tryz.zeroValue20
  t31:=Tryz.underlying36
  a31:=Tryz.isAgg36
  z31:=Tryz.sizeOf36
  v31:=Tryz.zeroValue36
  t37:=Tryz.underlying197
  a37:=Tryz.isAgg197
  z37:=Tryz.sizeOf197
  v37:=Tryz.zeroValue197
  t70:=Tryz.underlying256
  a70:=Tryz.isAgg256
  z70:=Tryz.sizeOf256
  v70:=Tryz.zeroValue256
  t72:=Tryz.underlying258
  a72:=Tryz.isAgg258
  z72:=Tryz.sizeOf258
  v72:=Tryz.zeroValue258
  t75:=Tryz.underlying253
  a75:=Tryz.isAgg253
  z75:=Tryz.sizeOf253
  v75:=Tryz.zeroValue253
  t76:=Tryz.underlying254
  a76:=Tryz.isAgg254
  z76:=Tryz.sizeOf254
  v76:=Tryz.zeroValue254
  t127:=Tryz.underlying281
  a127:=Tryz.isAgg281
  z127:=Tryz.sizeOf281
  v127:=Tryz.zeroValue281
  t164:=Tryz.underlying317
  a164:=Tryz.isAgg317
  z164:=Tryz.sizeOf317
  v164:=Tryz.zeroValue317 }
theorem Tryz.Builder_Extra_156:Builder.Extra Tryz.prog Tryz.lays156_ren:={
  sizeBuilder:=by kernel_rfl
  liesBuilder:=by kernel_rfl
  t5:=Tryz.underlying5
  a5:=Tryz.isAgg5
  z5:=Tryz.sizeOf5
  v5:=Tryz.zeroValue5
  infoByte:=by kernel_rfl
  cellsByte:=by kernel_rfl
  sizeByte:=by kernel_rfl
  neB5:=by decide }
open Go.RowKit in
theorem Tryz.strings_Join_none (a:Option Addr) (c:Nat) (sep:ByteArray) (w:World) :
    Calls Tryz.prog 196 #[.slice a 0 c,.string sep] w fun e w'=>e=.returned (.string ⟨#[]⟩)∧w'=w:=Any.strings_Join_none Tryz.lays156 Tryz.Builder_Extra_156 a c sep w
open Go.RowKit in
theorem Tryz.strings_Join (bk o c:Nat) (xs:List ByteArray) (sep:ByteArray) (w:World) (hcells:∀ (j:Nat) x,xs[j]?=some x→w.cell? ⟨bk,o+j,none⟩=some (.string x)) (hbk:bk < w.heap.size) (hN:xs.length≤140737488355328) (hcap:xs.length≤c) (hlen:(Lib.join (xs.map (·.data.toList)) sep.data.toList).length≤140737488355328) :
    Calls Tryz.prog 196 #[.slice (some ⟨bk,o,none⟩) xs.length c,.string sep] w fun e w'=>e=.returned (.string ⟨(Lib.join (xs.map (·.data.toList)) sep.data.toList).toArray⟩)∧Below w.heap.size w w':=Any.strings_Join Tryz.lays156 Tryz.Builder_Extra_156 bk o c xs sep w hcells hbk hN hcap hlen
def Tryz.lays160_ren:Go.Shelf.Ren:=⟨fun | 160=>208 | 232=>246 | 231=>245 | 227=>247 | 234=>249 | 233=>248 | 236=>251 | 235=>250 | 228=>276 | 271=>278 | 151=>277 | 197=>234 | 120=>315 | 152=>314 | 260=>263 | 137=>331 | 119=>332 | 224=>266 | 225=>265 | 217=>264 | 266=>305 | n=>n,fun | 9=>9 | 4=>4 | 3=>3 | 5=>5 | 117=>267 | 116=>266 | 0=>0 | 124=>270 | 21=>21 | 105=>249 | 46=>263 | 119=>305 | 139=>308 | 138=>307 | n=>n,fun | 3=>1 | 4=>2 | n=>n⟩
theorem Tryz.lays160:Go.Proofs.Lays.n160 Tryz.prog Tryz.lays160_ren:={
  mixed:=by kernel_rfl
  f119:=Tryz.func332.trans (congrArg some (by kernel_rfl))
  f120:=Tryz.func315.trans (congrArg some (by kernel_rfl))
  f137:=Tryz.func331.trans (congrArg some (by kernel_rfl))
  f151:=Tryz.func277.trans (congrArg some (by kernel_rfl))
  f152:=Tryz.func314.trans (congrArg some (by kernel_rfl))
  f160:=Tryz.func208.trans (congrArg some (by kernel_rfl))
  f197:=Tryz.func234.trans (congrArg some (by kernel_rfl))
  f217:=Tryz.func264.trans (congrArg some (by kernel_rfl))
  f224:=Tryz.func266.trans (congrArg some (by kernel_rfl))
  f225:=Tryz.func265.trans (congrArg some (by kernel_rfl))
  f227:=Tryz.func247.trans (congrArg some (by kernel_rfl))
  f228:=Tryz.func276.trans (congrArg some (by kernel_rfl))
  f231:=Tryz.func245.trans (congrArg some (by kernel_rfl))
  f232:=Tryz.func246.trans (congrArg some (by kernel_rfl))
  f233:=Tryz.func248.trans (congrArg some (by kernel_rfl))
  f234:=Tryz.func249.trans (congrArg some (by kernel_rfl))
  f235:=Tryz.func250.trans (congrArg some (by kernel_rfl))
  f236:=Tryz.func251.trans (congrArg some (by kernel_rfl))
  f260:=Tryz.func263.trans (congrArg some (by kernel_rfl))
  f266:=Tryz.func305.trans (congrArg some (by kernel_rfl))
  f271:=Tryz.func278.trans (congrArg some (by kernel_rfl))
  t0:=Tryz.underlying0
  a0:=Tryz.isAgg0
  z0:=Tryz.sizeOf0
  v0:=Tryz.zeroValue0
  t3:=Tryz.underlying3
  a3:=Tryz.isAgg3
  z3:=Tryz.sizeOf3
  v3:=Tryz.zeroValue3
  t4:=Tryz.underlying4
  a4:=Tryz.isAgg4
  z4:=Tryz.sizeOf4
  v4:=Tryz.zeroValue4
  t5:=Tryz.underlying5
  a5:=Tryz.isAgg5
  z5:=Tryz.sizeOf5
  v5:=Tryz.zeroValue5
  t9:=Tryz.underlying9
  a9:=Tryz.isAgg9
  z9:=Tryz.sizeOf9
  v9:=Tryz.zeroValue9
  t21:=Tryz.underlying21
  a21:=Tryz.isAgg21
  z21:=Tryz.sizeOf21
  v21:=Tryz.zeroValue21
  t46:=Tryz.underlying263
  a46:=Tryz.isAgg263
  z46:=Tryz.sizeOf263
  v46:=Tryz.zeroValue263
  t105:=Tryz.underlying249
  a105:=Tryz.isAgg249
  z105:=Tryz.sizeOf249
  v105:=Tryz.zeroValue249
  t116:=Tryz.underlying266
  a116:=Tryz.isAgg266
  z116:=Tryz.sizeOf266
  t117:=Tryz.underlying267
  a117:=Tryz.isAgg267
  z117:=Tryz.sizeOf267
  v117:=Tryz.zeroValue267
  t119:=Tryz.underlying305
  a119:=Tryz.isAgg305
  z119:=Tryz.sizeOf305
  t124:=Tryz.underlying270
  a124:=Tryz.isAgg270
  z124:=Tryz.sizeOf270
  v124:=Tryz.zeroValue270
  t138:=Tryz.underlying307
  a138:=Tryz.isAgg307
  z138:=Tryz.sizeOf307
  v138:=Tryz.zeroValue307
  t139:=Tryz.underlying308
  a139:=Tryz.isAgg308
  z139:=Tryz.sizeOf308
  v139:=Tryz.zeroValue308
  g3:=by kernel_rfl
  g4:=by kernel_rfl }
def Tryz.lays125_ren:Go.Shelf.Ren:=⟨fun | 125=>256 | 128=>287 | 129=>288 | n=>n,fun | 46=>263 | 3=>3 | 51=>292 | 53=>294 | 4=>4 | 5=>5 | 9=>9 | n=>n,fun | n=>n⟩
theorem Tryz.lays125:Go.Proofs.Lays.n125 Tryz.prog Tryz.lays125_ren:={
  mixed:=by kernel_rfl
  f125:=Tryz.func256.trans (congrArg some (by kernel_rfl))
  f128:=Tryz.func287.trans (congrArg some (by kernel_rfl))
  f129:=Tryz.func288.trans (congrArg some (by kernel_rfl))
  t3:=Tryz.underlying3
  a3:=Tryz.isAgg3
  z3:=Tryz.sizeOf3
  v3:=Tryz.zeroValue3
  t4:=Tryz.underlying4
  a4:=Tryz.isAgg4
  z4:=Tryz.sizeOf4
  v4:=Tryz.zeroValue4
  t5:=Tryz.underlying5
  a5:=Tryz.isAgg5
  z5:=Tryz.sizeOf5
  v5:=Tryz.zeroValue5
  t9:=Tryz.underlying9
  a9:=Tryz.isAgg9
  z9:=Tryz.sizeOf9
  v9:=Tryz.zeroValue9
  t46:=Tryz.underlying263
  a46:=Tryz.isAgg263
  z46:=Tryz.sizeOf263
  v46:=Tryz.zeroValue263
  t51:=Tryz.underlying292
  a51:=Tryz.isAgg292
  z51:=Tryz.sizeOf292
  v51:=Tryz.zeroValue292
  t53:=Tryz.underlying294
  a53:=Tryz.isAgg294
  z53:=Tryz.sizeOf294
  v53:=Tryz.zeroValue294 }
theorem Tryz.bits_Len (x:Int) (w:World) (h0:0≤x) (h1:x≤18446744073709551615) :
    Calls Tryz.prog 256 #[.int .u64 x] w fun e w'=>e=.returned (.int .i64 (Lib.bitLen x.toNat))∧w'=w:=Any.bits_Len Tryz.lays125 x w h0 h1
def Tryz.lays172_ren:Go.Shelf.Ren:=⟨fun | 172=>237 | 244=>268 | 245=>269 | 247=>307 | 279=>308 | 280=>309 | 281=>310 | 282=>311 | 287=>327 | 316=>328 | 171=>330 | 205=>329 | 321=>336 | 322=>337 | 243=>338 | 246=>339 | 283=>340 | 284=>341 | 285=>342 | 286=>343 | 129=>288 | 317=>344 | 318=>345 | 319=>346 | 320=>347 | 337=>348 | 338=>349 | n=>n,fun | 9=>9 | 3=>3 | 75=>253 | 76=>254 | 4=>4 | 5=>5 | 167=>311 | 37=>197 | 0=>0 | 85=>312 | 2=>2 | 168=>314 | 53=>294 | 175=>331 | 46=>263 | 210=>335 | 127=>281 | 145=>345 | 143=>343 | 21=>21 | 171=>347 | 173=>349 | 212=>352 | 51=>292 | 20=>20 | 213=>353 | 232=>354 | 233=>355 | 80=>260 | n=>n,fun | 15=>3 | 16=>4 | 17=>5 | 18=>6 | 19=>7 | n=>n⟩
theorem Tryz.lays172:Go.Proofs.Lays.n172 Tryz.prog Tryz.lays172_ren:={
  mixed:=by kernel_rfl
  f129:=Tryz.func288.trans (congrArg some (by kernel_rfl))
  f171:=Tryz.func330.trans (congrArg some (by kernel_rfl))
  f172:=Tryz.func237.trans (congrArg some (by kernel_rfl))
  f205:=Tryz.func329.trans (congrArg some (by kernel_rfl))
  f243:=Tryz.func338.trans (congrArg some (by kernel_rfl))
  f244:=Tryz.func268.trans (congrArg some (by kernel_rfl))
  f245:=Tryz.func269.trans (congrArg some (by kernel_rfl))
  f246:=Tryz.func339.trans (congrArg some (by kernel_rfl))
  f247:=Tryz.func307.trans (congrArg some (by kernel_rfl))
  f279:=Tryz.func308.trans (congrArg some (by kernel_rfl))
  f280:=Tryz.func309.trans (congrArg some (by kernel_rfl))
  f281:=Tryz.func310.trans (congrArg some (by kernel_rfl))
  f282:=Tryz.func311.trans (congrArg some (by kernel_rfl))
  f283:=Tryz.func340.trans (congrArg some (by kernel_rfl))
  f284:=Tryz.func341.trans (congrArg some (by kernel_rfl))
  f285:=Tryz.func342.trans (congrArg some (by kernel_rfl))
  f286:=Tryz.func343.trans (congrArg some (by kernel_rfl))
  f287:=Tryz.func327.trans (congrArg some (by kernel_rfl))
  f316:=Tryz.func328.trans (congrArg some (by kernel_rfl))
  f317:=Tryz.func344.trans (congrArg some (by kernel_rfl))
  f318:=Tryz.func345.trans (congrArg some (by kernel_rfl))
  f319:=Tryz.func346.trans (congrArg some (by kernel_rfl))
  f320:=Tryz.func347.trans (congrArg some (by kernel_rfl))
  f321:=Tryz.func336.trans (congrArg some (by kernel_rfl))
  f322:=Tryz.func337.trans (congrArg some (by kernel_rfl))
  f337:=Tryz.func348.trans (congrArg some (by kernel_rfl))
  f338:=Tryz.func349.trans (congrArg some (by kernel_rfl))
  t0:=Tryz.underlying0
  a0:=Tryz.isAgg0
  z0:=Tryz.sizeOf0
  v0:=Tryz.zeroValue0
  t2:=Tryz.underlying2
  a2:=Tryz.isAgg2
  z2:=Tryz.sizeOf2
  v2:=Tryz.zeroValue2
  t3:=Tryz.underlying3
  a3:=Tryz.isAgg3
  z3:=Tryz.sizeOf3
  v3:=Tryz.zeroValue3
  t4:=Tryz.underlying4
  a4:=Tryz.isAgg4
  z4:=Tryz.sizeOf4
  v4:=Tryz.zeroValue4
  t5:=Tryz.underlying5
  a5:=Tryz.isAgg5
  z5:=Tryz.sizeOf5
  v5:=Tryz.zeroValue5
  t9:=Tryz.underlying9
  a9:=Tryz.isAgg9
  z9:=Tryz.sizeOf9
  v9:=Tryz.zeroValue9
  t20:=Tryz.underlying20
  a20:=Tryz.isAgg20
  z20:=Tryz.sizeOf20
  v20:=Tryz.zeroValue20
  t21:=Tryz.underlying21
  a21:=Tryz.isAgg21
  z21:=Tryz.sizeOf21
  v21:=Tryz.zeroValue21
  t37:=Tryz.underlying197
  a37:=Tryz.isAgg197
  z37:=Tryz.sizeOf197
  v37:=Tryz.zeroValue197
  t46:=Tryz.underlying263
  a46:=Tryz.isAgg263
  z46:=Tryz.sizeOf263
  v46:=Tryz.zeroValue263
  t51:=Tryz.underlying292
  a51:=Tryz.isAgg292
  z51:=Tryz.sizeOf292
  v51:=Tryz.zeroValue292
  t53:=Tryz.underlying294
  a53:=Tryz.isAgg294
  z53:=Tryz.sizeOf294
  v53:=Tryz.zeroValue294
  t75:=Tryz.underlying253
  a75:=Tryz.isAgg253
  z75:=Tryz.sizeOf253
  v75:=Tryz.zeroValue253
  t76:=Tryz.underlying254
  a76:=Tryz.isAgg254
  z76:=Tryz.sizeOf254
  v76:=Tryz.zeroValue254
  t85:=Tryz.underlying312
  a85:=Tryz.isAgg312
  z85:=Tryz.sizeOf312
  v85:=Tryz.zeroValue312
  t127:=Tryz.underlying281
  a127:=Tryz.isAgg281
  z127:=Tryz.sizeOf281
  v127:=Tryz.zeroValue281
  t143:=Tryz.underlying343
  a143:=Tryz.isAgg343
  z143:=Tryz.sizeOf343
  v143:=Tryz.zeroValue343
  t145:=Tryz.underlying345
  a145:=Tryz.isAgg345
  z145:=Tryz.sizeOf345
  v145:=Tryz.zeroValue345
  t167:=Tryz.underlying311
  a167:=Tryz.isAgg311
  z167:=Tryz.sizeOf311
  v167:=Tryz.zeroValue311
  t168:=Tryz.underlying314
  a168:=Tryz.isAgg314
  z168:=Tryz.sizeOf314
  v168:=Tryz.zeroValue314
  t171:=Tryz.underlying347
  a171:=Tryz.isAgg347
  z171:=Tryz.sizeOf347
  v171:=Tryz.zeroValue347
  t173:=Tryz.underlying349
  a173:=Tryz.isAgg349
  z173:=Tryz.sizeOf349
  v173:=Tryz.zeroValue349
  t175:=Tryz.underlying331
  a175:=Tryz.isAgg331
  z175:=Tryz.sizeOf331
  v175:=Tryz.zeroValue331
  t210:=Tryz.underlying335
  a210:=Tryz.isAgg335
  z210:=Tryz.sizeOf335
  v210:=Tryz.zeroValue335
  t212:=Tryz.underlying352
  a212:=Tryz.isAgg352
  z212:=Tryz.sizeOf352
  v212:=Tryz.zeroValue352
  t213:=Tryz.underlying353
  a213:=Tryz.isAgg353
  z213:=Tryz.sizeOf353
  t232:=Tryz.underlying354
  a232:=Tryz.isAgg354
  z232:=Tryz.sizeOf354
  v232:=Tryz.zeroValue354
  t233:=Tryz.underlying355
  a233:=Tryz.isAgg355
  z233:=Tryz.sizeOf355
  v233:=Tryz.zeroValue355
  g15:=by kernel_rfl
  g16:=by kernel_rfl
  g17:=by kernel_rfl
  g18:=by kernel_rfl
  g19:=by kernel_rfl }
open Go.RowKit in
theorem Tryz.strconv_Atoi (s:ByteArray) (n:Int) (hl:s.size≤18) (h:Lib.atoi s.data.toList=some n) (w:World) :
    Calls Tryz.prog 237 #[.string s] w fun e w'=>e=.returned (.tuple #[.int .i64 n,.nilIface])∧∃ t,w'=Lib.bytesWorld w 5 t:=Any.strconv_Atoi Tryz.lays172 s n hl h w
open Go.Lib in
open Go.Lib in
open Go.Lib in
open Go.Lib in
open Go.RowKit Go.Sort Go.Lib in
open Go.RowKit Go.Sort Go.Lib in
open Go.RowKit Go.Sort Go.Lib in
open Go.RowKit Go.Sort Go.Lib in
open Go.RowKit Go.Sort Go.Lib in
open Go.RowKit Go.Sort Go.Lib in
open Go.RowKit Go.Sort Go.Lib in
open Go.RowKit Go.Lib in
open Go.RowKit Go.Lib in
open Go.RowKit Go.Lib in
open Go.RowKit Go.Lib in
open Go.RowKit Go.Lib in
open Go.RowKit Go.Lib in
open Go.RowKit Go.Lib in
open Go.RowKit Go.Lib in
open Go.RowKit Go.Lib in
open Go.RowKit Go.Lib in
open Go.RowKit Go.Lib in
open Go.RowKit Go.Lib in
open Go.RowKit Go.Lib in
open Go.RowKit Go.Lib in
open Go.RowKit Go.Lib in
def Tryz.laysGw17_ren:Go.Shelf.Ren:=⟨fun | 17=>210 | 15=>252 | 20=>279 | n=>n,fun | 9=>9 | 23=>240 | 4=>4 | 3=>3 | 0=>0 | 21=>21 | n=>n,fun | n=>n⟩
theorem Tryz.laysGw17:Go.Proofs.LaysGw.n17 Tryz.prog Tryz.laysGw17_ren:={
  mixed:=by kernel_rfl
  f15:=Tryz.func252.trans (congrArg some (by kernel_rfl))
  f17:=Tryz.func210.trans (congrArg some (by kernel_rfl))
  f20:=Tryz.func279.trans (congrArg some (by kernel_rfl))
  t0:=Tryz.underlying0
  a0:=Tryz.isAgg0
  z0:=Tryz.sizeOf0
  v0:=Tryz.zeroValue0
  i0:=by kernel_rfl
  t3:=Tryz.underlying3
  a3:=Tryz.isAgg3
  z3:=Tryz.sizeOf3
  v3:=Tryz.zeroValue3
  i3:=by kernel_rfl
  t4:=Tryz.underlying4
  a4:=Tryz.isAgg4
  z4:=Tryz.sizeOf4
  v4:=Tryz.zeroValue4
  i4:=by kernel_rfl
  t9:=Tryz.underlying9
  a9:=Tryz.isAgg9
  z9:=Tryz.sizeOf9
  v9:=Tryz.zeroValue9
  i9:=by kernel_rfl
  t21:=Tryz.underlying21
  a21:=Tryz.isAgg21
  z21:=Tryz.sizeOf21
  v21:=Tryz.zeroValue21
  i21:=by kernel_rfl
  t23:=Tryz.underlying240
  a23:=Tryz.isAgg240
  z23:=Tryz.sizeOf240
  v23:=Tryz.zeroValue240
  i23:=by kernel_rfl }
open Go.RowKit Go.Lib in
open Go.RowKit Go.Lib in
open Go.RowKit Go.Lib in
def Tryz.lays146_ren:Go.Shelf.Ren:=⟨fun | 146=>94 | 221=>140 | 268=>191 | 138=>192 | 143=>193 | 195=>233 | 197=>234 | 218=>235 | 219=>236 | 260=>263 | 217=>264 | 225=>265 | 224=>266 | 267=>267 | 266=>305 | 314=>306 | n=>n,fun | 9=>9 | 31=>36 | 3=>3 | 4=>4 | 0=>0 | 105=>249 | 21=>21 | 5=>5 | 46=>263 | 119=>305 | 139=>308 | 138=>307 | 146=>309 | 51=>292 | n=>n,fun | 1=>0 | 3=>1 | 4=>2 | n=>n⟩
theorem Tryz.lays146:Go.Proofs.Lays.n146 Tryz.prog Tryz.lays146_ren:={
  mixed:=by kernel_rfl
  f138:=Tryz.func192.trans (congrArg some (by kernel_rfl))
  f143:=Tryz.func193.trans (congrArg some (by kernel_rfl))
  f146:=Tryz.func94.trans (congrArg some (by kernel_rfl))
  f195:=Tryz.func233.trans (congrArg some (by kernel_rfl))
  f197:=Tryz.func234.trans (congrArg some (by kernel_rfl))
  f217:=Tryz.func264.trans (congrArg some (by kernel_rfl))
  f218:=Tryz.func235.trans (congrArg some (by kernel_rfl))
  f219:=Tryz.func236.trans (congrArg some (by kernel_rfl))
  f221:=Tryz.func140.trans (congrArg some (by kernel_rfl))
  f224:=Tryz.func266.trans (congrArg some (by kernel_rfl))
  f225:=Tryz.func265.trans (congrArg some (by kernel_rfl))
  f260:=Tryz.func263.trans (congrArg some (by kernel_rfl))
  f266:=Tryz.func305.trans (congrArg some (by kernel_rfl))
  f267:=Tryz.func267.trans (congrArg some (by kernel_rfl))
  f268:=Tryz.func191.trans (congrArg some (by kernel_rfl))
  f314:=Tryz.func306.trans (congrArg some (by kernel_rfl))
  t0:=Tryz.underlying0
  a0:=Tryz.isAgg0
  z0:=Tryz.sizeOf0
  v0:=Tryz.zeroValue0
  t3:=Tryz.underlying3
  a3:=Tryz.isAgg3
  z3:=Tryz.sizeOf3
  v3:=Tryz.zeroValue3
  t4:=Tryz.underlying4
  a4:=Tryz.isAgg4
  z4:=Tryz.sizeOf4
  v4:=Tryz.zeroValue4
  t5:=Tryz.underlying5
  a5:=Tryz.isAgg5
  z5:=Tryz.sizeOf5
  v5:=Tryz.zeroValue5
  t9:=Tryz.underlying9
  a9:=Tryz.isAgg9
  z9:=Tryz.sizeOf9
  v9:=Tryz.zeroValue9
  t21:=Tryz.underlying21
  a21:=Tryz.isAgg21
  z21:=Tryz.sizeOf21
  v21:=Tryz.zeroValue21
  t31:=Tryz.underlying36
  a31:=Tryz.isAgg36
  z31:=Tryz.sizeOf36
  v31:=Tryz.zeroValue36
  t46:=Tryz.underlying263
  a46:=Tryz.isAgg263
  z46:=Tryz.sizeOf263
  v46:=Tryz.zeroValue263
  t51:=Tryz.underlying292
  a51:=Tryz.isAgg292
  z51:=Tryz.sizeOf292
  v51:=Tryz.zeroValue292
  t105:=Tryz.underlying249
  a105:=Tryz.isAgg249
  z105:=Tryz.sizeOf249
  v105:=Tryz.zeroValue249
  t119:=Tryz.underlying305
  a119:=Tryz.isAgg305
  z119:=Tryz.sizeOf305
  t138:=Tryz.underlying307
  a138:=Tryz.isAgg307
  z138:=Tryz.sizeOf307
  v138:=Tryz.zeroValue307
  t139:=Tryz.underlying308
  a139:=Tryz.isAgg308
  z139:=Tryz.sizeOf308
  v139:=Tryz.zeroValue308
  t146:=Tryz.underlying309
  a146:=Tryz.isAgg309
  z146:=Tryz.sizeOf309
  v146:=Tryz.zeroValue309
  g1:=by kernel_rfl
  g3:=by kernel_rfl
  g4:=by kernel_rfl }
open Go.RowKit Go.Lib in
theorem Tryz.strings_Split (s sep:ByteArray) (m:Int) (w:World) (hs:s.size < 4294967281) (hm:w.cell? ⟨0,0,none⟩=some (.int .i64 m)) (h1:1≤sep.size) :
    Calls Tryz.prog 94 #[.string s,.string sep] w fun e w' =>
      e=.returned (.slice (some ⟨w.heap.size,0,none⟩) (Lib.countB s sep+1) (Lib.countB s sep+1))∧w'=w.alloc (.cells ((Lib.splitB sep 0 (Lib.countB s sep) s).map Value.string).toArray 9):=Any.strings_Split Tryz.lays146 (by kernel_rfl) s sep m w hs hm h1
open Go.RowKit Go.Lib in
open Go.RowKit Go.Lib in
open Go.RowKit Go.Lib in
open Go.RowKit Go.Lib in
open Go.RowKit Go.Lib in
open Go.RowKit Go.Lib in
open Go.RowKit Go.Lib in
open Go.RowKit Go.Lib in
open Go.RowKit Go.Lib in
open Go.RowKit Go.Lib in
open Go.RowKit Go.Lib in
open Go.RowKit Go.Lib in
open Go.RowKit Go.Lib in
open Go.RowKit Go.Lib in
open Go.RowKit Go.Lib in
open Go.RowKit Go.Lib in
theorem Tryz.strings_ContainsFunc_grows (g:Nat) (lb:Array Value) (eg:∀ args w,(callFunc g args).run Tryz.prog w=.ok (.enter g args) w) (p:Nat→Bool) (s:ByteArray) (w:World) (hp:PredGrows Tryz.prog g lb p w) :
    Calls Tryz.prog 210 #[.string s,.func (.func g) #[] lb] w fun e w'=>e=.returned (.bool (decide (0≤Lib.idxFunc p true s)))∧Below w.heap.size w w':=Any.strings_ContainsFunc_grows Tryz.laysGw17 g lb eg p s w hp
open Go.Lib in
open Go.Lib in
def Tryz.lays107_ren:Go.Shelf.Ren:=⟨fun | 107=>83 | 108=>133 | n=>n,fun | 28=>100 | 3=>3 | 4=>4 | 0=>0 | n=>n,fun | n=>n⟩
theorem Tryz.lays107:Go.Proofs.Lays.n107 Tryz.prog Tryz.lays107_ren:={
  mixed:=by kernel_rfl
  f107:=Tryz.func83.trans (congrArg some (by kernel_rfl))
  f108:=Tryz.func133.trans (congrArg some (by kernel_rfl))
  t0:=Tryz.underlying0
  a0:=Tryz.isAgg0
  z0:=Tryz.sizeOf0
  v0:=Tryz.zeroValue0
  t3:=Tryz.underlying3
  a3:=Tryz.isAgg3
  z3:=Tryz.sizeOf3
  v3:=Tryz.zeroValue3
  t4:=Tryz.underlying4
  a4:=Tryz.isAgg4
  z4:=Tryz.sizeOf4
  v4:=Tryz.zeroValue4
  t28:=Tryz.underlying100
  a28:=Tryz.isAgg100
  z28:=Tryz.sizeOf100
  v28:=Tryz.zeroValue100 }
open Go.Lib in
theorem Tryz.slices_Contains_int (b off n c:Nat) (zs:List Int) (x:Int) (w:World) (hz:n≤zs.length) (hbig:n≤9223372036854775807) (hc:∀ j,j < zs.length→w.cell? ⟨b,off+j,none⟩=some (.int .i64 (zs.getD j 0))) :
    Calls Tryz.prog 83 #[.slice (some ⟨b,off,none⟩) n c,.int .i64 x] w fun e w'=>e=.returned (.bool ((zs.take n).contains x))∧w'=w:=Any.slices_Contains_int Tryz.lays107 b off n c zs x w hz hbig hc
open Go.Lib in
theorem Tryz.slices_Contains_int_empty (a:Option Addr) (c:Nat) (x:Int) (w:World) :
    Calls Tryz.prog 83 #[.slice a 0 c,.int .i64 x] w fun e w'=>e=.returned (.bool false)∧w'=w:=Any.slices_Contains_int_empty Tryz.lays107 a c x w
def Tryz.lays109_ren:Go.Shelf.Ren:=⟨fun | 109=>93 | n=>n,fun | 31=>36 | 9=>9 | 3=>3 | 0=>0 | 4=>4 | n=>n,fun | n=>n⟩
theorem Tryz.lays109:Go.Proofs.Lays.n109 Tryz.prog Tryz.lays109_ren:={
  mixed:=by kernel_rfl
  f109:=Tryz.func93.trans (congrArg some (by kernel_rfl))
  t0:=Tryz.underlying0
  a0:=Tryz.isAgg0
  z0:=Tryz.sizeOf0
  v0:=Tryz.zeroValue0
  t3:=Tryz.underlying3
  a3:=Tryz.isAgg3
  z3:=Tryz.sizeOf3
  v3:=Tryz.zeroValue3
  t4:=Tryz.underlying4
  a4:=Tryz.isAgg4
  z4:=Tryz.sizeOf4
  v4:=Tryz.zeroValue4
  t9:=Tryz.underlying9
  a9:=Tryz.isAgg9
  z9:=Tryz.sizeOf9
  v9:=Tryz.zeroValue9
  t31:=Tryz.underlying36
  a31:=Tryz.isAgg36
  z31:=Tryz.sizeOf36
  v31:=Tryz.zeroValue36 }
open Go.Lib in
theorem Tryz.slices_Index_string (b off n c:Nat) (zs:List ByteArray) (x:ByteArray) (w:World) (hz:n≤zs.length) (hbig:n≤9223372036854775807) (hc:∀ j,j < zs.length→w.cell? ⟨b,off+j,none⟩=some (.string (zs.getD j ByteArray.empty))) :
    Calls Tryz.prog 93 #[.slice (some ⟨b,off,none⟩) n c,.string x] w fun e w'=>e=.returned (.int .i64 (Lib.idxOfS (zs.take n) x))∧w'=w:=Any.slices_Index_string Tryz.lays109 b off n c zs x w hz hbig hc
open Go.Lib in
def Tryz.lays110_ren:Go.Shelf.Ren:=⟨fun | 110=>44 | 109=>93 | n=>n,fun | 31=>36 | 9=>9 | 4=>4 | 3=>3 | 0=>0 | n=>n,fun | n=>n⟩
theorem Tryz.lays110:Go.Proofs.Lays.n110 Tryz.prog Tryz.lays110_ren:={
  mixed:=by kernel_rfl
  f109:=Tryz.func93.trans (congrArg some (by kernel_rfl))
  f110:=Tryz.func44.trans (congrArg some (by kernel_rfl))
  t0:=Tryz.underlying0
  a0:=Tryz.isAgg0
  z0:=Tryz.sizeOf0
  v0:=Tryz.zeroValue0
  t3:=Tryz.underlying3
  a3:=Tryz.isAgg3
  z3:=Tryz.sizeOf3
  v3:=Tryz.zeroValue3
  t4:=Tryz.underlying4
  a4:=Tryz.isAgg4
  z4:=Tryz.sizeOf4
  v4:=Tryz.zeroValue4
  t9:=Tryz.underlying9
  a9:=Tryz.isAgg9
  z9:=Tryz.sizeOf9
  v9:=Tryz.zeroValue9
  t31:=Tryz.underlying36
  a31:=Tryz.isAgg36
  z31:=Tryz.sizeOf36
  v31:=Tryz.zeroValue36 }
open Go.Lib in
theorem Tryz.slices_Contains_string (b off n c:Nat) (zs:List ByteArray) (x:ByteArray) (w:World) (hz:n≤zs.length) (hbig:n≤9223372036854775807) (hc:∀ j,j < zs.length→w.cell? ⟨b,off+j,none⟩=some (.string (zs.getD j ByteArray.empty))) :
    Calls Tryz.prog 44 #[.slice (some ⟨b,off,none⟩) n c,.string x] w fun e w'=>e=.returned (.bool (Lib.containsS (zs.take n) x))∧w'=w:=Any.slices_Contains_string Tryz.lays110 b off n c zs x w hz hbig hc
open Go.Lib in
theorem Tryz.slices_Contains_string_empty (a:Option Addr) (c:Nat) (x:ByteArray) (w:World) :
    Calls Tryz.prog 44 #[.slice a 0 c,.string x] w fun e w'=>e=.returned (.bool false)∧w'=w:=Any.slices_Contains_string_empty Tryz.lays110 a c x w
def Tryz.lays193_ren:Go.Shelf.Ren:=⟨fun | 193=>47 | n=>n,fun | 31=>36 | 9=>9 | 4=>4 | 3=>3 | 0=>0 | n=>n,fun | n=>n⟩
theorem Tryz.lays193:Go.Proofs.Lays.n193 Tryz.prog Tryz.lays193_ren:={
  mixed:=by kernel_rfl
  f193:=Tryz.func47.trans (congrArg some (by kernel_rfl))
  t0:=Tryz.underlying0
  a0:=Tryz.isAgg0
  z0:=Tryz.sizeOf0
  v0:=Tryz.zeroValue0
  t3:=Tryz.underlying3
  a3:=Tryz.isAgg3
  z3:=Tryz.sizeOf3
  v3:=Tryz.zeroValue3
  t4:=Tryz.underlying4
  a4:=Tryz.isAgg4
  z4:=Tryz.sizeOf4
  v4:=Tryz.zeroValue4
  t9:=Tryz.underlying9
  a9:=Tryz.isAgg9
  z9:=Tryz.sizeOf9
  v9:=Tryz.zeroValue9
  t31:=Tryz.underlying36
  a31:=Tryz.isAgg36
  z31:=Tryz.sizeOf36
  v31:=Tryz.zeroValue36 }
open Go.RowKit Go.Lib in
theorem Tryz.slices_Equal_string (b1 o1 n c b2 o2 m d:Nat) (xs ys:List ByteArray) (w:World) (hx:n≤xs.length) (hy:m≤ys.length) (hbig:n≤9223372036854775807) (hbig2:m≤9223372036854775807) (hc1:∀ j,j < xs.length→w.cell? ⟨b1,o1+j,none⟩=some (.string (xs.getD j ByteArray.empty))) (hc2:∀ j,j < ys.length→w.cell? ⟨b2,o2+j,none⟩=some (.string (ys.getD j ByteArray.empty))) :
    Calls Tryz.prog 47 #[.slice (some ⟨b1,o1,none⟩) n c,.slice (some ⟨b2,o2,none⟩) m d] w fun e w'=>e=.returned (.bool (decide (xs.take n=ys.take m)))∧∃ q,w'=w.drewN q:=Any.slices_Equal_string Tryz.lays193 b1 o1 n c b2 o2 m d xs ys w hx hy hbig hbig2 hc1 hc2
open Go.RowKit Go.Lib in
theorem Tryz.slices_Equal_string_empty (a1 a2:Option Addr) (c m d:Nat) (w:World) (hbig2:m≤9223372036854775807) :
    Calls Tryz.prog 47 #[.slice a1 0 c,.slice a2 m d] w fun e w'=>e=.returned (.bool (decide (m=0)))∧w'=w:=Any.slices_Equal_string_empty Tryz.lays193 a1 a2 c m d w hbig2
def Tryz.laysNm216_ren:Go.Shelf.Ren:=⟨fun | 16=>84 | n=>n,fun | 24=>36 | 9=>9 | 4=>4 | n=>n,fun | n=>n⟩
theorem Tryz.laysNm216:Go.Proofs.Lays2.n16 Tryz.prog Tryz.laysNm216_ren:={
  mixed:=by kernel_rfl
  f16:=Tryz.func84.trans (congrArg some (by kernel_rfl))
  t4:=Tryz.underlying4
  a4:=Tryz.isAgg4
  z4:=Tryz.sizeOf4
  v4:=Tryz.zeroValue4
  t9:=Tryz.underlying9
  a9:=Tryz.isAgg9
  z9:=Tryz.sizeOf9
  v9:=Tryz.zeroValue9
  t24:=Tryz.underlying36
  a24:=Tryz.isAgg36
  z24:=Tryz.sizeOf36
  v24:=Tryz.zeroValue36
  i9:=by kernel_rfl }
open Go.RowKit Go.Lib in
theorem Tryz.slices_Clone_string (b off n c:Nat) (zs:List ByteArray) (w:World) (hz:n≤zs.length) (hbig:n * 16≤140737488355328) (hc:∀ j,j < zs.length→w.cell? ⟨b,off+j,none⟩=some (.string (zs.getD j ByteArray.empty))) :
    Calls Tryz.prog 84 #[.slice (some ⟨b,off,none⟩) n c] w fun e w'=>∃ v',e=.returned v'∧w'.ownsRow w.heap.size 9 1 v' n ((zs.take n).map (Value.string))∧v'≠.slice none 0 0∧Below w.heap.size w w':=Any.slices_Clone_string Tryz.laysNm216 b off n c zs w hz hbig hc
open Go.RowKit Go.Lib in
theorem Tryz.slices_Clone_string_nil (n c:Nat) (w:World) :
    Calls Tryz.prog 84 #[.slice none n c] w fun e w'=>e=.returned (.slice none 0 0)∧w'=w:=Any.slices_Clone_string_nil Tryz.laysNm216 n c w
open Go.RowKit Go.Lib in
theorem Tryz.slices_Clone_string_zero (a:Addr) (c:Nat) (w:World) :
    Calls Tryz.prog 84 #[.slice (some a) 0 c] w fun e w'=>∃ v',e=.returned v'∧w'.ownsRow w.heap.size 9 1 v' 0 []∧v'≠.slice none 0 0∧Below w.heap.size w w':=Any.slices_Clone_string_zero Tryz.laysNm216 a c w
open Go.RowKit Go.Lib in
open Go.RowKit Go.Lib in
theorem Tryz.slices_Equal_string_lens (a1 a2:Option Addr) (n c m d:Nat) (w:World) (hnm:n≠m) :
    Calls Tryz.prog 47 #[.slice a1 n c,.slice a2 m d] w fun e w'=>e=.returned (.bool false)∧w'=w:=Any.slices_Equal_string_lens Tryz.lays193 a1 a2 n c m d w hnm
open Go.RowKit Go.Lib in
open Go.RowKit Go.Lib in
open Go.RowKit Go.Lib in
open Go.RowKit Go.Lib in
open Go.RowKit Go.Lib in
open Go.RowKit Go.Lib in
open Go.RowKit Go.Lib in
def Tryz.laysSlH8_f155_ren:Go.Shelf.Ren:=⟨fun | 8=>155 | 6=>209 | n=>n,fun | 22=>100 | 23=>3 | 25=>200 | 4=>4 | 3=>3 | 0=>0 | n=>n,fun | n=>n⟩
theorem Tryz.laysSlH8_f155:Go.Proofs.SlLaysH.n8 Tryz.prog Tryz.laysSlH8_f155_ren:={
  mixed:=by kernel_rfl
  f6:=⟨Tryz.f209.name,by decide,Tryz.func209.trans (congrArg some (by kernel_rfl))⟩
  f8:=⟨Tryz.f155.name,by decide,Tryz.func155.trans (congrArg some (by kernel_rfl))⟩
  t0:=Tryz.underlying0
  a0:=Tryz.isAgg0
  z0:=Tryz.sizeOf0
  v0:=Tryz.zeroValue0
  t3:=Tryz.underlying3
  a3:=Tryz.isAgg3
  z3:=Tryz.sizeOf3
  v3:=Tryz.zeroValue3
  t4:=Tryz.underlying4
  a4:=Tryz.isAgg4
  z4:=Tryz.sizeOf4
  v4:=Tryz.zeroValue4
  t22:=Tryz.underlying100
  a22:=Tryz.isAgg100
  z22:=Tryz.sizeOf100
  v22:=Tryz.zeroValue100
  a23:=Tryz.isAgg3
  z23:=Tryz.sizeOf3
  t25:=Tryz.underlying200
  a25:=Tryz.isAgg200
  z25:=Tryz.sizeOf200
  v25:=Tryz.zeroValue200 }
open Go.RowKit Go.Lib in
theorem Tryz.slices_ContainsFunc_f155 {α:Type} [Inhabited α] (enc:α→Value) (p:α→Bool) (g:Nat) (lb:Array Value) (eg:∀ args w,(callFunc g args).run Tryz.prog w=.ok (.enter g args) w) (b off n c:Nat) (zs:List α) (w:World) (hp:PredAt Tryz.prog g lb enc p w) (hz:n≤zs.length) (hbig:n≤9223372036854775807) (hc:∀ j,j < zs.length→w.cell? ⟨b,off+j,none⟩=some (enc zs[j]!)) :
    Calls Tryz.prog 155 #[.slice (some ⟨b,off,none⟩) n c,.func (.func g) #[] lb] w fun e w'=>e=.returned (.bool ((zs.take n).any p))∧∃ q,w'=w.drewN q:=AnyE.slices_ContainsFunc Tryz.laysSlH8_f155 enc p g lb eg b off n c zs w hp hz hbig hc
open Go.RowKit Go.Lib in
open Go.RowKit Go.Lib in
theorem Tryz.slices_ContainsFunc_empty_f155 {α:Type} [Inhabited α] (a:Option Addr) (c:Nat) (fv:Value) (w:World) :
    Calls Tryz.prog 155 #[.slice a 0 c,fv] w fun e w'=>e=.returned (.bool false)∧w'=w:=AnyE.slices_ContainsFunc_empty Tryz.laysSlH8_f155 a c fv w
open Go.RowKit Go.Lib in
def Tryz.laysSlH10_f141_ren:Go.Shelf.Ren:=⟨fun | 10=>141 | 6=>194 | n=>n,fun | 22=>36 | 23=>9 | 25=>187 | 3=>3 | 4=>4 | 0=>0 | n=>n,fun | n=>n⟩
theorem Tryz.laysSlH10_f141:Go.Proofs.SlLaysH.n10 Tryz.prog Tryz.laysSlH10_f141_ren:={
  mixed:=by kernel_rfl
  f6:=⟨Tryz.f194.name,by decide,Tryz.func194.trans (congrArg some (by kernel_rfl))⟩
  f10:=⟨Tryz.f141.name,by decide,Tryz.func141.trans (congrArg some (by kernel_rfl))⟩
  t0:=Tryz.underlying0
  a0:=Tryz.isAgg0
  z0:=Tryz.sizeOf0
  v0:=Tryz.zeroValue0
  t3:=Tryz.underlying3
  a3:=Tryz.isAgg3
  z3:=Tryz.sizeOf3
  v3:=Tryz.zeroValue3
  t4:=Tryz.underlying4
  a4:=Tryz.isAgg4
  z4:=Tryz.sizeOf4
  v4:=Tryz.zeroValue4
  t22:=Tryz.underlying36
  a22:=Tryz.isAgg36
  z22:=Tryz.sizeOf36
  v22:=Tryz.zeroValue36
  a23:=Tryz.isAgg9
  z23:=Tryz.sizeOf9
  t25:=Tryz.underlying187
  a25:=Tryz.isAgg187
  z25:=Tryz.sizeOf187
  v25:=Tryz.zeroValue187 }
open Go.RowKit Go.Lib Go.Sort in
theorem Tryz.slices_DeleteFunc {α:Type} [Inhabited α] (enc:α→Value) (hO:OneCell enc) (p:α→Bool) (g:Nat) (lb:Array Value) (eg:∀ args w,(callFunc g args).run Tryz.prog w=.ok (.enter g args) w) (zr:α) (v23:∀ w,(zeroValue 9).run Tryz.prog w=.ok (enc zr) w) (blk off cap:Nat) (d:Array α) (w:World) (hp:PredAt Tryz.prog g lb enc p w) (hpo:PredOver Tryz.prog g lb enc p blk off d.size w) (hH:Holds enc w blk off d) (hsz:d.size≤9223372036854775807) (hcap:d.size≤cap) :
    Calls Tryz.prog 141 #[.slice (some ⟨blk,off,none⟩) d.size cap,.func (.func g) #[] lb] w fun e w'=>e=.returned (.slice (some ⟨blk,off,none⟩) (d.toList.filter fun x=>!p x).length cap)∧∃ q,w'=putRow enc (Sort.ahead w q) blk off ((d.toList.filter fun x=>!p x)++List.replicate (d.size - (d.toList.filter fun x=>!p x).length) zr).toArray:=AnyE.slices_DeleteFunc Tryz.laysSlH10_f141 enc hO p g lb eg zr v23 blk off cap d w hp hpo hH hsz hcap
end Go.Proofs
