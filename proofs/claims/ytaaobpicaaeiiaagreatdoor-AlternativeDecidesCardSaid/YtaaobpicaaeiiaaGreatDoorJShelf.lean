/-
  DERIVED: THE SHELF's CONTRACTS AT THIS DUMP, IN PLAIN WORDS (tools/lay-plain.mjs out of 'TryzShelf.lean', which tools/lay-shelf.mjs wrote): THE SAME DECLARATIONS UNDER THE SAME NAMES: 'import', 'namespace', 'open', 'def', 'theorem' AND NOTHING ELSE: no command of the shelf's: FOR A HAND-IN. Each laying: the table of numbers ('.._ren') and one theorem, a field a fact of the dump's own or the kernel's comparison; each contract: ONE APPLICATION.
-/
import Derived.Shelf.SlGeneric
import Derived.Shelf.Strings.SlTrimAscii
import Derived.Shelf.Strings.Builder1
import Derived.Shelf.Strings.Builder2
import Derived.Shelf.Strings.OnBuilder
import Derived.Shelf.Strings.Trim
import Derived.Shelf.Small.Utf8
import Derived.Shelf.Small.Bits
import Derived.Shelf.Small.Strs
import Derived.Shelf.Small.Wraps
import Derived.Shelf.Strings.BuilderF
import Derived.Shelf.Strings.BuilderK
import Derived.Shelf.Strings.Builder2Cap
import Derived.Shelf.Strconv.Atoi
import Derived.Shelf.Strconv.Itoa0
import Derived.Shelf.Strconv.Itoa1
import Derived.Shelf.LaysM
import Derived.Shelf.Strconv.Itoa2
import Derived.Shelf.Strconv.Itoa3
import Derived.Shelf.Strconv.AtoiErrFast
import Derived.Shelf.Strconv.ParseIntEmpty
import Derived.Shelf.Strconv.AtoiFail
import Derived.Shelf.Strconv.Clone
import Derived.Shelf.Strconv.SyntaxError
import Derived.Shelf.LaysC
import Derived.Shelf.Strconv.ToError
import Derived.Shelf.Strconv.Lower
import Derived.Shelf.Strconv.ParseUint10
import Derived.Shelf.Strconv.ParseUint10Empty
import Derived.Shelf.Strconv.ParseUint10Any
import Derived.Shelf.Strconv.ParseInt10
import Derived.Shelf.Strconv.AtoiLong
import Derived.Shelf.Strconv.AtoiInnerAll
import Derived.Shelf.Strconv.RangeError
import Derived.Shelf.Strconv.ToErrorRange
import Derived.Shelf.Strconv.AtoiAll
import Derived.Shelf.Strings.Search1
import Derived.Shelf.Strings.Search2
import Derived.Shelf.Strings.Search3
import Derived.Shelf.Strings.Count
import Derived.Shelf.Strings.Shaped
import Derived.Shelf.Strings.Split
import Derived.Shelf.Strings.SplitShaped
import Derived.Shelf.Unicode.Decode
import Derived.Shelf.Strings.Runes
import Derived.Shelf.Strings.RuneCount
import Derived.Shelf.Strings.AsciiSet
import Derived.Shelf.Strings.Explode
import Derived.Shelf.Unicode.DecodeSlow
import Derived.Shelf.Strings.BuilderCap
import Derived.Shelf.Slices.Turned
import Derived.Ground.Names2Prog
import Derived.Shelf.Slices.SearchI
import Derived.Ground.SlgfProg
import Derived.Shelf.SlicesE.IndexFunc
import Derived.Shelf.SlicesE.DeleteFunc
import Derived.Test.YtaaobpicaaeiiaaGreatDoorProg
set_option linter.all false
namespace Go.Proofs
open Go.Shelf
def Tryz.lays156_ren : Go.Shelf.Ren := ⟨fun | 156 => 169 | 165 => 229 | 166 => 230 | 169 => 231 | 240 => 269 | 241 => 270 | 276 => 290 | 277 => 291 | n => n, fun | 31 => 102 | 9 => 9 | 3 => 3 | 4 => 4 | 0 => 0 | 20 => 20 | 72 => 230 | 76 => 234 | 70 => 228 | 37 => 217 | 75 => 233 | 127 => 259 | 164 => 268 | 5 => 5 | 80 => 139 | n => n, fun | n => n⟩
theorem Tryz.lays156 : Go.Proofs.Lays.n156 Tryz.prog Tryz.lays156_ren := {
  mixed := by kernel_rfl
  f156 := Tryz.func169.trans (congrArg some (by kernel_rfl))
  f165 := Tryz.func229.trans (congrArg some (by kernel_rfl))
  f166 := Tryz.func230.trans (congrArg some (by kernel_rfl))
  f169 := Tryz.func231.trans (congrArg some (by kernel_rfl))
  f240 := Tryz.func269.trans (congrArg some (by kernel_rfl))
  f241 := Tryz.func270.trans (congrArg some (by kernel_rfl))
  f276 := Tryz.func290.trans (congrArg some (by kernel_rfl))
  f277 := Tryz.func291.trans (congrArg some (by kernel_rfl))
  t0 := Tryz.underlying0
  a0 := Tryz.isAgg0
  z0 := Tryz.sizeOf0
  v0 := Tryz.zeroValue0
  t3 := Tryz.underlying3
  a3 := Tryz.isAgg3
  z3 := Tryz.sizeOf3
  v3 := Tryz.zeroValue3
  t4 := Tryz.underlying4
  a4 := Tryz.isAgg4
  z4 := Tryz.sizeOf4
  v4 := Tryz.zeroValue4
  t9 := Tryz.underlying9
  a9 := Tryz.isAgg9
  z9 := Tryz.sizeOf9
  v9 := Tryz.zeroValue9
  t20 := Tryz.underlying20
  a20 := Tryz.isAgg20
  z20 := Tryz.sizeOf20
  v20 := Tryz.zeroValue20
  t31 := Tryz.underlying102
  a31 := Tryz.isAgg102
  z31 := Tryz.sizeOf102
  v31 := Tryz.zeroValue102
  t37 := Tryz.underlying217
  a37 := Tryz.isAgg217
  z37 := Tryz.sizeOf217
  v37 := Tryz.zeroValue217
  t70 := Tryz.underlying228
  a70 := Tryz.isAgg228
  z70 := Tryz.sizeOf228
  v70 := Tryz.zeroValue228
  t72 := Tryz.underlying230
  a72 := Tryz.isAgg230
  z72 := Tryz.sizeOf230
  v72 := Tryz.zeroValue230
  t75 := Tryz.underlying233
  a75 := Tryz.isAgg233
  z75 := Tryz.sizeOf233
  v75 := Tryz.zeroValue233
  t76 := Tryz.underlying234
  a76 := Tryz.isAgg234
  z76 := Tryz.sizeOf234
  v76 := Tryz.zeroValue234
  t127 := Tryz.underlying259
  a127 := Tryz.isAgg259
  z127 := Tryz.sizeOf259
  v127 := Tryz.zeroValue259
  t164 := Tryz.underlying268
  a164 := Tryz.isAgg268
  z164 := Tryz.sizeOf268
  v164 := Tryz.zeroValue268 }
theorem Tryz.Builder_Extra_156 : Builder.Extra Tryz.prog Tryz.lays156_ren := {
  sizeBuilder := by kernel_rfl
  liesBuilder := by kernel_rfl
  t5 := Tryz.underlying5
  a5 := Tryz.isAgg5
  z5 := Tryz.sizeOf5
  v5 := Tryz.zeroValue5
  infoByte := by kernel_rfl
  cellsByte := by kernel_rfl
  sizeByte := by kernel_rfl
  neB5 := by decide }
open Go.RowKit in
theorem Tryz.strings_Join_none (a : Option Addr) (c : Nat) (sep : ByteArray) (w : World) :
    Calls Tryz.prog 169 #[.slice a 0 c, .string sep] w fun e w' => e = .returned (.string ⟨#[]⟩) ∧ w' = w := Any.strings_Join_none Tryz.lays156 Tryz.Builder_Extra_156 a c sep w
open Go.RowKit in
theorem Tryz.strings_Join (bk o c : Nat) (xs : List ByteArray) (sep : ByteArray) (w : World) (hcells : ∀ (j : Nat) x, xs[j]? = some x → w.cell? ⟨bk, o + j, none⟩ = some (.string x)) (hbk : bk < w.heap.size) (hN : xs.length ≤ 140737488355328) (hcap : xs.length ≤ c) (hlen : (Lib.join (xs.map (·.data.toList)) sep.data.toList).length ≤ 140737488355328) :
    Calls Tryz.prog 169 #[.slice (some ⟨bk, o, none⟩) xs.length c, .string sep] w fun e w' => e = .returned (.string ⟨(Lib.join (xs.map (·.data.toList)) sep.data.toList).toArray⟩) ∧ Below w.heap.size w w' := Any.strings_Join Tryz.lays156 Tryz.Builder_Extra_156 bk o c xs sep w hcells hbk hN hcap hlen
def Tryz.lays161_ren : Go.Shelf.Ren := ⟨fun | 161 => 166 | 231 => 224 | 227 => 225 | 233 => 226 | 235 => 227 | 228 => 266 | 197 => 256 | 151 => 267 | 260 => 276 | 152 => 289 | 137 => 167 | 119 => 300 | 224 => 278 | 225 => 277 | 217 => 228 | 266 => 268 | n => n, fun | 9 => 9 | 4 => 4 | 3 => 3 | 5 => 5 | 117 => 224 | 116 => 223 | 0 => 0 | 124 => 227 | 105 => 252 | 21 => 21 | 119 => 272 | 46 => 148 | 139 => 275 | 138 => 274 | n => n, fun | 3 => 1 | 4 => 2 | n => n⟩
theorem Tryz.lays161 : Go.Proofs.Lays.n161 Tryz.prog Tryz.lays161_ren := {
  mixed := by kernel_rfl
  f119 := Tryz.func300.trans (congrArg some (by kernel_rfl))
  f137 := Tryz.func167.trans (congrArg some (by kernel_rfl))
  f151 := Tryz.func267.trans (congrArg some (by kernel_rfl))
  f152 := Tryz.func289.trans (congrArg some (by kernel_rfl))
  f161 := Tryz.func166.trans (congrArg some (by kernel_rfl))
  f197 := Tryz.func256.trans (congrArg some (by kernel_rfl))
  f217 := Tryz.func228.trans (congrArg some (by kernel_rfl))
  f224 := Tryz.func278.trans (congrArg some (by kernel_rfl))
  f225 := Tryz.func277.trans (congrArg some (by kernel_rfl))
  f227 := Tryz.func225.trans (congrArg some (by kernel_rfl))
  f228 := Tryz.func266.trans (congrArg some (by kernel_rfl))
  f231 := Tryz.func224.trans (congrArg some (by kernel_rfl))
  f233 := Tryz.func226.trans (congrArg some (by kernel_rfl))
  f235 := Tryz.func227.trans (congrArg some (by kernel_rfl))
  f260 := Tryz.func276.trans (congrArg some (by kernel_rfl))
  f266 := Tryz.func268.trans (congrArg some (by kernel_rfl))
  t0 := Tryz.underlying0
  a0 := Tryz.isAgg0
  z0 := Tryz.sizeOf0
  v0 := Tryz.zeroValue0
  t3 := Tryz.underlying3
  a3 := Tryz.isAgg3
  z3 := Tryz.sizeOf3
  v3 := Tryz.zeroValue3
  t4 := Tryz.underlying4
  a4 := Tryz.isAgg4
  z4 := Tryz.sizeOf4
  v4 := Tryz.zeroValue4
  t5 := Tryz.underlying5
  a5 := Tryz.isAgg5
  z5 := Tryz.sizeOf5
  v5 := Tryz.zeroValue5
  t9 := Tryz.underlying9
  a9 := Tryz.isAgg9
  z9 := Tryz.sizeOf9
  v9 := Tryz.zeroValue9
  t21 := Tryz.underlying21
  a21 := Tryz.isAgg21
  z21 := Tryz.sizeOf21
  v21 := Tryz.zeroValue21
  t46 := Tryz.underlying148
  a46 := Tryz.isAgg148
  z46 := Tryz.sizeOf148
  v46 := Tryz.zeroValue148
  t105 := Tryz.underlying252
  a105 := Tryz.isAgg252
  z105 := Tryz.sizeOf252
  v105 := Tryz.zeroValue252
  t116 := Tryz.underlying223
  a116 := Tryz.isAgg223
  z116 := Tryz.sizeOf223
  t117 := Tryz.underlying224
  a117 := Tryz.isAgg224
  z117 := Tryz.sizeOf224
  v117 := Tryz.zeroValue224
  t119 := Tryz.underlying272
  a119 := Tryz.isAgg272
  z119 := Tryz.sizeOf272
  t124 := Tryz.underlying227
  a124 := Tryz.isAgg227
  z124 := Tryz.sizeOf227
  v124 := Tryz.zeroValue227
  t138 := Tryz.underlying274
  a138 := Tryz.isAgg274
  z138 := Tryz.sizeOf274
  v138 := Tryz.zeroValue274
  t139 := Tryz.underlying275
  a139 := Tryz.isAgg275
  z139 := Tryz.sizeOf275
  v139 := Tryz.zeroValue275
  g3 := by kernel_rfl
  g4 := by kernel_rfl }
def Tryz.lays160_ren : Go.Shelf.Ren := ⟨fun | 160 => 259 | 232 => 280 | 231 => 224 | 227 => 225 | 234 => 281 | 233 => 226 | 236 => 282 | 235 => 227 | 228 => 266 | 271 => 294 | 151 => 267 | 197 => 256 | 120 => 301 | 152 => 289 | 260 => 276 | 137 => 167 | 119 => 300 | 224 => 278 | 225 => 277 | 217 => 228 | 266 => 268 | n => n, fun | 9 => 9 | 4 => 4 | 3 => 3 | 5 => 5 | 117 => 224 | 116 => 223 | 0 => 0 | 124 => 227 | 21 => 21 | 105 => 252 | 46 => 148 | 119 => 272 | 139 => 275 | 138 => 274 | n => n, fun | 3 => 1 | 4 => 2 | n => n⟩
theorem Tryz.lays160 : Go.Proofs.Lays.n160 Tryz.prog Tryz.lays160_ren := {
  mixed := by kernel_rfl
  f119 := Tryz.func300.trans (congrArg some (by kernel_rfl))
  f120 := Tryz.func301.trans (congrArg some (by kernel_rfl))
  f137 := Tryz.func167.trans (congrArg some (by kernel_rfl))
  f151 := Tryz.func267.trans (congrArg some (by kernel_rfl))
  f152 := Tryz.func289.trans (congrArg some (by kernel_rfl))
  f160 := Tryz.func259.trans (congrArg some (by kernel_rfl))
  f197 := Tryz.func256.trans (congrArg some (by kernel_rfl))
  f217 := Tryz.func228.trans (congrArg some (by kernel_rfl))
  f224 := Tryz.func278.trans (congrArg some (by kernel_rfl))
  f225 := Tryz.func277.trans (congrArg some (by kernel_rfl))
  f227 := Tryz.func225.trans (congrArg some (by kernel_rfl))
  f228 := Tryz.func266.trans (congrArg some (by kernel_rfl))
  f231 := Tryz.func224.trans (congrArg some (by kernel_rfl))
  f232 := Tryz.func280.trans (congrArg some (by kernel_rfl))
  f233 := Tryz.func226.trans (congrArg some (by kernel_rfl))
  f234 := Tryz.func281.trans (congrArg some (by kernel_rfl))
  f235 := Tryz.func227.trans (congrArg some (by kernel_rfl))
  f236 := Tryz.func282.trans (congrArg some (by kernel_rfl))
  f260 := Tryz.func276.trans (congrArg some (by kernel_rfl))
  f266 := Tryz.func268.trans (congrArg some (by kernel_rfl))
  f271 := Tryz.func294.trans (congrArg some (by kernel_rfl))
  t0 := Tryz.underlying0
  a0 := Tryz.isAgg0
  z0 := Tryz.sizeOf0
  v0 := Tryz.zeroValue0
  t3 := Tryz.underlying3
  a3 := Tryz.isAgg3
  z3 := Tryz.sizeOf3
  v3 := Tryz.zeroValue3
  t4 := Tryz.underlying4
  a4 := Tryz.isAgg4
  z4 := Tryz.sizeOf4
  v4 := Tryz.zeroValue4
  t5 := Tryz.underlying5
  a5 := Tryz.isAgg5
  z5 := Tryz.sizeOf5
  v5 := Tryz.zeroValue5
  t9 := Tryz.underlying9
  a9 := Tryz.isAgg9
  z9 := Tryz.sizeOf9
  v9 := Tryz.zeroValue9
  t21 := Tryz.underlying21
  a21 := Tryz.isAgg21
  z21 := Tryz.sizeOf21
  v21 := Tryz.zeroValue21
  t46 := Tryz.underlying148
  a46 := Tryz.isAgg148
  z46 := Tryz.sizeOf148
  v46 := Tryz.zeroValue148
  t105 := Tryz.underlying252
  a105 := Tryz.isAgg252
  z105 := Tryz.sizeOf252
  v105 := Tryz.zeroValue252
  t116 := Tryz.underlying223
  a116 := Tryz.isAgg223
  z116 := Tryz.sizeOf223
  t117 := Tryz.underlying224
  a117 := Tryz.isAgg224
  z117 := Tryz.sizeOf224
  v117 := Tryz.zeroValue224
  t119 := Tryz.underlying272
  a119 := Tryz.isAgg272
  z119 := Tryz.sizeOf272
  t124 := Tryz.underlying227
  a124 := Tryz.isAgg227
  z124 := Tryz.sizeOf227
  v124 := Tryz.zeroValue227
  t138 := Tryz.underlying274
  a138 := Tryz.isAgg274
  z138 := Tryz.sizeOf274
  v138 := Tryz.zeroValue274
  t139 := Tryz.underlying275
  a139 := Tryz.isAgg275
  z139 := Tryz.sizeOf275
  v139 := Tryz.zeroValue275
  g3 := by kernel_rfl
  g4 := by kernel_rfl }
def Tryz.lays125_ren : Go.Shelf.Ren := ⟨fun | 125 => 127 | 128 => 188 | 129 => 189 | n => n, fun | 46 => 148 | 3 => 3 | 51 => 195 | 53 => 197 | 4 => 4 | 5 => 5 | 9 => 9 | n => n, fun | n => n⟩
theorem Tryz.lays125 : Go.Proofs.Lays.n125 Tryz.prog Tryz.lays125_ren := {
  mixed := by kernel_rfl
  f125 := Tryz.func127.trans (congrArg some (by kernel_rfl))
  f128 := Tryz.func188.trans (congrArg some (by kernel_rfl))
  f129 := Tryz.func189.trans (congrArg some (by kernel_rfl))
  t3 := Tryz.underlying3
  a3 := Tryz.isAgg3
  z3 := Tryz.sizeOf3
  v3 := Tryz.zeroValue3
  t4 := Tryz.underlying4
  a4 := Tryz.isAgg4
  z4 := Tryz.sizeOf4
  v4 := Tryz.zeroValue4
  t5 := Tryz.underlying5
  a5 := Tryz.isAgg5
  z5 := Tryz.sizeOf5
  v5 := Tryz.zeroValue5
  t9 := Tryz.underlying9
  a9 := Tryz.isAgg9
  z9 := Tryz.sizeOf9
  v9 := Tryz.zeroValue9
  t46 := Tryz.underlying148
  a46 := Tryz.isAgg148
  z46 := Tryz.sizeOf148
  v46 := Tryz.zeroValue148
  t51 := Tryz.underlying195
  a51 := Tryz.isAgg195
  z51 := Tryz.sizeOf195
  v51 := Tryz.zeroValue195
  t53 := Tryz.underlying197
  a53 := Tryz.isAgg197
  z53 := Tryz.sizeOf197
  v53 := Tryz.zeroValue197 }
theorem Tryz.bits_Len (x : Int) (w : World) (h0 : 0 ≤ x) (h1 : x ≤ 18446744073709551615) :
    Calls Tryz.prog 127 #[.int .u64 x] w fun e w' => e = .returned (.int .i64 (Lib.bitLen x.toNat)) ∧ w' = w := Any.bits_Len Tryz.lays125 x w h0 h1
def Tryz.lays137_ren : Go.Shelf.Ren := ⟨fun | 137 => 167 | 217 => 228 | 266 => 268 | n => n, fun | 9 => 9 | 5 => 5 | 3 => 3 | n => n, fun | n => n⟩
theorem Tryz.lays137 : Go.Proofs.Lays.n137 Tryz.prog Tryz.lays137_ren := {
  mixed := by kernel_rfl
  f137 := Tryz.func167.trans (congrArg some (by kernel_rfl))
  f217 := Tryz.func228.trans (congrArg some (by kernel_rfl))
  f266 := Tryz.func268.trans (congrArg some (by kernel_rfl))
  t3 := Tryz.underlying3
  a3 := Tryz.isAgg3
  z3 := Tryz.sizeOf3
  v3 := Tryz.zeroValue3
  t5 := Tryz.underlying5
  a5 := Tryz.isAgg5
  z5 := Tryz.sizeOf5
  v5 := Tryz.zeroValue5
  t9 := Tryz.underlying9
  a9 := Tryz.isAgg9
  z9 := Tryz.sizeOf9
  v9 := Tryz.zeroValue9 }
open Go.RowKit in
theorem Tryz.strings_IndexByte (s : ByteArray) (c : Int) (w : World) :
    Calls Tryz.prog 167 #[.string s, .int .u8 c] w fun e w' => e = .returned (.int .i64 (Lib.indexByte s.data.toList c.toNat.toUInt8)) ∧ w' = w := Any.strings_IndexByte Tryz.lays137 s c w
def Tryz.lays172_ren : Go.Shelf.Ren := ⟨fun | 172 => 260 | 244 => 283 | 245 => 284 | 247 => 295 | 279 => 296 | 280 => 297 | 281 => 298 | 282 => 299 | 287 => 302 | 316 => 303 | 171 => 305 | 205 => 304 | 321 => 306 | 322 => 307 | 243 => 308 | 246 => 309 | 283 => 310 | 284 => 311 | 285 => 312 | 286 => 313 | 129 => 189 | 317 => 314 | 318 => 315 | 319 => 316 | 320 => 317 | 337 => 318 | 338 => 319 | n => n, fun | 9 => 9 | 3 => 3 | 75 => 233 | 76 => 234 | 4 => 4 | 5 => 5 | 167 => 278 | 37 => 217 | 0 => 0 | 85 => 279 | 2 => 2 | 168 => 281 | 53 => 197 | 175 => 285 | 46 => 148 | 210 => 289 | 127 => 259 | 145 => 295 | 143 => 293 | 21 => 21 | 171 => 297 | 173 => 299 | 212 => 302 | 51 => 195 | 20 => 20 | 213 => 303 | 232 => 304 | 233 => 305 | 80 => 139 | n => n, fun | 15 => 3 | 16 => 4 | 17 => 5 | 18 => 6 | 19 => 7 | n => n⟩
theorem Tryz.lays172 : Go.Proofs.Lays.n172 Tryz.prog Tryz.lays172_ren := {
  mixed := by kernel_rfl
  f129 := Tryz.func189.trans (congrArg some (by kernel_rfl))
  f171 := Tryz.func305.trans (congrArg some (by kernel_rfl))
  f172 := Tryz.func260.trans (congrArg some (by kernel_rfl))
  f205 := Tryz.func304.trans (congrArg some (by kernel_rfl))
  f243 := Tryz.func308.trans (congrArg some (by kernel_rfl))
  f244 := Tryz.func283.trans (congrArg some (by kernel_rfl))
  f245 := Tryz.func284.trans (congrArg some (by kernel_rfl))
  f246 := Tryz.func309.trans (congrArg some (by kernel_rfl))
  f247 := Tryz.func295.trans (congrArg some (by kernel_rfl))
  f279 := Tryz.func296.trans (congrArg some (by kernel_rfl))
  f280 := Tryz.func297.trans (congrArg some (by kernel_rfl))
  f281 := Tryz.func298.trans (congrArg some (by kernel_rfl))
  f282 := Tryz.func299.trans (congrArg some (by kernel_rfl))
  f283 := Tryz.func310.trans (congrArg some (by kernel_rfl))
  f284 := Tryz.func311.trans (congrArg some (by kernel_rfl))
  f285 := Tryz.func312.trans (congrArg some (by kernel_rfl))
  f286 := Tryz.func313.trans (congrArg some (by kernel_rfl))
  f287 := Tryz.func302.trans (congrArg some (by kernel_rfl))
  f316 := Tryz.func303.trans (congrArg some (by kernel_rfl))
  f317 := Tryz.func314.trans (congrArg some (by kernel_rfl))
  f318 := Tryz.func315.trans (congrArg some (by kernel_rfl))
  f319 := Tryz.func316.trans (congrArg some (by kernel_rfl))
  f320 := Tryz.func317.trans (congrArg some (by kernel_rfl))
  f321 := Tryz.func306.trans (congrArg some (by kernel_rfl))
  f322 := Tryz.func307.trans (congrArg some (by kernel_rfl))
  f337 := Tryz.func318.trans (congrArg some (by kernel_rfl))
  f338 := Tryz.func319.trans (congrArg some (by kernel_rfl))
  t0 := Tryz.underlying0
  a0 := Tryz.isAgg0
  z0 := Tryz.sizeOf0
  v0 := Tryz.zeroValue0
  t2 := Tryz.underlying2
  a2 := Tryz.isAgg2
  z2 := Tryz.sizeOf2
  v2 := Tryz.zeroValue2
  t3 := Tryz.underlying3
  a3 := Tryz.isAgg3
  z3 := Tryz.sizeOf3
  v3 := Tryz.zeroValue3
  t4 := Tryz.underlying4
  a4 := Tryz.isAgg4
  z4 := Tryz.sizeOf4
  v4 := Tryz.zeroValue4
  t5 := Tryz.underlying5
  a5 := Tryz.isAgg5
  z5 := Tryz.sizeOf5
  v5 := Tryz.zeroValue5
  t9 := Tryz.underlying9
  a9 := Tryz.isAgg9
  z9 := Tryz.sizeOf9
  v9 := Tryz.zeroValue9
  t20 := Tryz.underlying20
  a20 := Tryz.isAgg20
  z20 := Tryz.sizeOf20
  v20 := Tryz.zeroValue20
  t21 := Tryz.underlying21
  a21 := Tryz.isAgg21
  z21 := Tryz.sizeOf21
  v21 := Tryz.zeroValue21
  t37 := Tryz.underlying217
  a37 := Tryz.isAgg217
  z37 := Tryz.sizeOf217
  v37 := Tryz.zeroValue217
  t46 := Tryz.underlying148
  a46 := Tryz.isAgg148
  z46 := Tryz.sizeOf148
  v46 := Tryz.zeroValue148
  t51 := Tryz.underlying195
  a51 := Tryz.isAgg195
  z51 := Tryz.sizeOf195
  v51 := Tryz.zeroValue195
  t53 := Tryz.underlying197
  a53 := Tryz.isAgg197
  z53 := Tryz.sizeOf197
  v53 := Tryz.zeroValue197
  t75 := Tryz.underlying233
  a75 := Tryz.isAgg233
  z75 := Tryz.sizeOf233
  v75 := Tryz.zeroValue233
  t76 := Tryz.underlying234
  a76 := Tryz.isAgg234
  z76 := Tryz.sizeOf234
  v76 := Tryz.zeroValue234
  t85 := Tryz.underlying279
  a85 := Tryz.isAgg279
  z85 := Tryz.sizeOf279
  v85 := Tryz.zeroValue279
  t127 := Tryz.underlying259
  a127 := Tryz.isAgg259
  z127 := Tryz.sizeOf259
  v127 := Tryz.zeroValue259
  t143 := Tryz.underlying293
  a143 := Tryz.isAgg293
  z143 := Tryz.sizeOf293
  v143 := Tryz.zeroValue293
  t145 := Tryz.underlying295
  a145 := Tryz.isAgg295
  z145 := Tryz.sizeOf295
  v145 := Tryz.zeroValue295
  t167 := Tryz.underlying278
  a167 := Tryz.isAgg278
  z167 := Tryz.sizeOf278
  v167 := Tryz.zeroValue278
  t168 := Tryz.underlying281
  a168 := Tryz.isAgg281
  z168 := Tryz.sizeOf281
  v168 := Tryz.zeroValue281
  t171 := Tryz.underlying297
  a171 := Tryz.isAgg297
  z171 := Tryz.sizeOf297
  v171 := Tryz.zeroValue297
  t173 := Tryz.underlying299
  a173 := Tryz.isAgg299
  z173 := Tryz.sizeOf299
  v173 := Tryz.zeroValue299
  t175 := Tryz.underlying285
  a175 := Tryz.isAgg285
  z175 := Tryz.sizeOf285
  v175 := Tryz.zeroValue285
  t210 := Tryz.underlying289
  a210 := Tryz.isAgg289
  z210 := Tryz.sizeOf289
  v210 := Tryz.zeroValue289
  t212 := Tryz.underlying302
  a212 := Tryz.isAgg302
  z212 := Tryz.sizeOf302
  v212 := Tryz.zeroValue302
  t213 := Tryz.underlying303
  a213 := Tryz.isAgg303
  z213 := Tryz.sizeOf303
  t232 := Tryz.underlying304
  a232 := Tryz.isAgg304
  z232 := Tryz.sizeOf304
  v232 := Tryz.zeroValue304
  t233 := Tryz.underlying305
  a233 := Tryz.isAgg305
  z233 := Tryz.sizeOf305
  v233 := Tryz.zeroValue305
  g15 := by kernel_rfl
  g16 := by kernel_rfl
  g17 := by kernel_rfl
  g18 := by kernel_rfl
  g19 := by kernel_rfl }
open Go.RowKit in
theorem Tryz.strconv_Atoi (s : ByteArray) (n : Int) (hl : s.size ≤ 18) (h : Lib.atoi s.data.toList = some n) (w : World) :
    Calls Tryz.prog 260 #[.string s] w fun e w' => e = .returned (.tuple #[.int .i64 n, .nilIface]) ∧ ∃ t, w' = Lib.bytesWorld w 5 t := Any.strconv_Atoi Tryz.lays172 s n hl h w
open Go.Lib in
open Go.Lib in
open Go.Lib in
open Go.Lib in
open Go.RowKit Go.Sort Go.Lib in
open Go.RowKit Go.Sort Go.Lib in
open Go.RowKit Go.Sort Go.Lib in
open Go.RowKit Go.Sort Go.Lib in
open Go.RowKit Go.Sort Go.Lib in
open Go.RowKit Go.Sort Go.Lib in
open Go.RowKit Go.Sort Go.Lib in
open Go.RowKit Go.Lib in
open Go.RowKit Go.Lib in
open Go.RowKit Go.Lib in
open Go.RowKit Go.Lib in
open Go.RowKit Go.Lib in
open Go.RowKit Go.Lib in
open Go.RowKit Go.Lib in
open Go.RowKit Go.Lib in
open Go.RowKit Go.Lib in
open Go.RowKit Go.Lib in
open Go.RowKit Go.Lib in
open Go.RowKit Go.Lib in
open Go.RowKit Go.Lib in
open Go.RowKit Go.Lib in
open Go.RowKit Go.Lib in
def Tryz.lays146_ren : Go.Shelf.Ren := ⟨fun | 146 => 98 | 221 => 146 | 268 => 200 | 138 => 201 | 143 => 202 | 195 => 255 | 197 => 256 | 218 => 257 | 219 => 258 | 260 => 276 | 217 => 228 | 225 => 277 | 224 => 278 | 267 => 279 | 266 => 268 | 314 => 293 | n => n, fun | 9 => 9 | 31 => 102 | 3 => 3 | 4 => 4 | 0 => 0 | 105 => 252 | 21 => 21 | 5 => 5 | 46 => 148 | 119 => 272 | 139 => 275 | 138 => 274 | 146 => 276 | 51 => 195 | n => n, fun | 1 => 0 | 3 => 1 | 4 => 2 | n => n⟩
theorem Tryz.lays146 : Go.Proofs.Lays.n146 Tryz.prog Tryz.lays146_ren := {
  mixed := by kernel_rfl
  f138 := Tryz.func201.trans (congrArg some (by kernel_rfl))
  f143 := Tryz.func202.trans (congrArg some (by kernel_rfl))
  f146 := Tryz.func98.trans (congrArg some (by kernel_rfl))
  f195 := Tryz.func255.trans (congrArg some (by kernel_rfl))
  f197 := Tryz.func256.trans (congrArg some (by kernel_rfl))
  f217 := Tryz.func228.trans (congrArg some (by kernel_rfl))
  f218 := Tryz.func257.trans (congrArg some (by kernel_rfl))
  f219 := Tryz.func258.trans (congrArg some (by kernel_rfl))
  f221 := Tryz.func146.trans (congrArg some (by kernel_rfl))
  f224 := Tryz.func278.trans (congrArg some (by kernel_rfl))
  f225 := Tryz.func277.trans (congrArg some (by kernel_rfl))
  f260 := Tryz.func276.trans (congrArg some (by kernel_rfl))
  f266 := Tryz.func268.trans (congrArg some (by kernel_rfl))
  f267 := Tryz.func279.trans (congrArg some (by kernel_rfl))
  f268 := Tryz.func200.trans (congrArg some (by kernel_rfl))
  f314 := Tryz.func293.trans (congrArg some (by kernel_rfl))
  t0 := Tryz.underlying0
  a0 := Tryz.isAgg0
  z0 := Tryz.sizeOf0
  v0 := Tryz.zeroValue0
  t3 := Tryz.underlying3
  a3 := Tryz.isAgg3
  z3 := Tryz.sizeOf3
  v3 := Tryz.zeroValue3
  t4 := Tryz.underlying4
  a4 := Tryz.isAgg4
  z4 := Tryz.sizeOf4
  v4 := Tryz.zeroValue4
  t5 := Tryz.underlying5
  a5 := Tryz.isAgg5
  z5 := Tryz.sizeOf5
  v5 := Tryz.zeroValue5
  t9 := Tryz.underlying9
  a9 := Tryz.isAgg9
  z9 := Tryz.sizeOf9
  v9 := Tryz.zeroValue9
  t21 := Tryz.underlying21
  a21 := Tryz.isAgg21
  z21 := Tryz.sizeOf21
  v21 := Tryz.zeroValue21
  t31 := Tryz.underlying102
  a31 := Tryz.isAgg102
  z31 := Tryz.sizeOf102
  v31 := Tryz.zeroValue102
  t46 := Tryz.underlying148
  a46 := Tryz.isAgg148
  z46 := Tryz.sizeOf148
  v46 := Tryz.zeroValue148
  t51 := Tryz.underlying195
  a51 := Tryz.isAgg195
  z51 := Tryz.sizeOf195
  v51 := Tryz.zeroValue195
  t105 := Tryz.underlying252
  a105 := Tryz.isAgg252
  z105 := Tryz.sizeOf252
  v105 := Tryz.zeroValue252
  t119 := Tryz.underlying272
  a119 := Tryz.isAgg272
  z119 := Tryz.sizeOf272
  t138 := Tryz.underlying274
  a138 := Tryz.isAgg274
  z138 := Tryz.sizeOf274
  v138 := Tryz.zeroValue274
  t139 := Tryz.underlying275
  a139 := Tryz.isAgg275
  z139 := Tryz.sizeOf275
  v139 := Tryz.zeroValue275
  t146 := Tryz.underlying276
  a146 := Tryz.isAgg276
  z146 := Tryz.sizeOf276
  v146 := Tryz.zeroValue276
  g1 := by kernel_rfl
  g3 := by kernel_rfl
  g4 := by kernel_rfl }
open Go.RowKit Go.Lib in
theorem Tryz.strings_Split (s sep : ByteArray) (m : Int) (w : World) (hs : s.size < 4294967281) (hm : w.cell? ⟨0, 0, none⟩ = some (.int .i64 m)) (h1 : 1 ≤ sep.size) :
    Calls Tryz.prog 98 #[.string s, .string sep] w fun e w' =>
      e = .returned (.slice (some ⟨w.heap.size, 0, none⟩) (Lib.countB s sep + 1) (Lib.countB s sep + 1)) ∧ w' = w.alloc (.cells ((Lib.splitB sep 0 (Lib.countB s sep) s).map Value.string).toArray 9) := Any.strings_Split Tryz.lays146 (by kernel_rfl) s sep m w hs hm h1
open Go.RowKit Go.Lib in
open Go.RowKit Go.Lib in
open Go.RowKit Go.Lib in
open Go.RowKit Go.Lib in
open Go.RowKit Go.Lib in
open Go.RowKit Go.Lib in
open Go.RowKit Go.Lib in
open Go.RowKit Go.Lib in
open Go.RowKit Go.Lib in
open Go.RowKit Go.Lib in
open Go.RowKit Go.Lib in
def Tryz.lays109_ren : Go.Shelf.Ren := ⟨fun | 109 => 204 | n => n, fun | 31 => 102 | 9 => 9 | 3 => 3 | 0 => 0 | 4 => 4 | n => n, fun | n => n⟩
theorem Tryz.lays109 : Go.Proofs.Lays.n109 Tryz.prog Tryz.lays109_ren := {
  mixed := by kernel_rfl
  f109 := Tryz.func204.trans (congrArg some (by kernel_rfl))
  t0 := Tryz.underlying0
  a0 := Tryz.isAgg0
  z0 := Tryz.sizeOf0
  v0 := Tryz.zeroValue0
  t3 := Tryz.underlying3
  a3 := Tryz.isAgg3
  z3 := Tryz.sizeOf3
  v3 := Tryz.zeroValue3
  t4 := Tryz.underlying4
  a4 := Tryz.isAgg4
  z4 := Tryz.sizeOf4
  v4 := Tryz.zeroValue4
  t9 := Tryz.underlying9
  a9 := Tryz.isAgg9
  z9 := Tryz.sizeOf9
  v9 := Tryz.zeroValue9
  t31 := Tryz.underlying102
  a31 := Tryz.isAgg102
  z31 := Tryz.sizeOf102
  v31 := Tryz.zeroValue102 }
open Go.Lib in
theorem Tryz.slices_Index_string (b off n c : Nat) (zs : List ByteArray) (x : ByteArray) (w : World) (hz : n ≤ zs.length) (hbig : n ≤ 9223372036854775807) (hc : ∀ j, j < zs.length → w.cell? ⟨b, off + j, none⟩ = some (.string (zs.getD j ByteArray.empty))) :
    Calls Tryz.prog 204 #[.slice (some ⟨b, off, none⟩) n c, .string x] w fun e w' => e = .returned (.int .i64 (Lib.idxOfS (zs.take n) x)) ∧ w' = w := Any.slices_Index_string Tryz.lays109 b off n c zs x w hz hbig hc
open Go.Lib in
open Go.RowKit Go.Lib in
open Go.RowKit Go.Lib in
open Go.RowKit Go.Lib in
open Go.RowKit Go.Lib in
open Go.RowKit Go.Lib in
open Go.RowKit Go.Lib in
def Tryz.laysSlH8_f218_ren : Go.Shelf.Ren := ⟨fun | 8 => 218 | 6 => 265 | n => n, fun | 22 => 121 | 23 => 3 | 25 => 153 | 4 => 4 | 3 => 3 | 0 => 0 | n => n, fun | n => n⟩
theorem Tryz.laysSlH8_f218 : Go.Proofs.SlLaysH.n8 Tryz.prog Tryz.laysSlH8_f218_ren := {
  mixed := by kernel_rfl
  f6 := ⟨Tryz.f265.name, by decide, Tryz.func265.trans (congrArg some (by kernel_rfl))⟩
  f8 := ⟨Tryz.f218.name, by decide, Tryz.func218.trans (congrArg some (by kernel_rfl))⟩
  t0 := Tryz.underlying0
  a0 := Tryz.isAgg0
  z0 := Tryz.sizeOf0
  v0 := Tryz.zeroValue0
  t3 := Tryz.underlying3
  a3 := Tryz.isAgg3
  z3 := Tryz.sizeOf3
  v3 := Tryz.zeroValue3
  t4 := Tryz.underlying4
  a4 := Tryz.isAgg4
  z4 := Tryz.sizeOf4
  v4 := Tryz.zeroValue4
  t22 := Tryz.underlying121
  a22 := Tryz.isAgg121
  z22 := Tryz.sizeOf121
  v22 := Tryz.zeroValue121
  a23 := Tryz.isAgg3
  z23 := Tryz.sizeOf3
  t25 := Tryz.underlying153
  a25 := Tryz.isAgg153
  z25 := Tryz.sizeOf153
  v25 := Tryz.zeroValue153 }
open Go.RowKit Go.Lib in
theorem Tryz.slices_ContainsFunc_f218 {α : Type} [Inhabited α] (enc : α → Value) (p : α → Bool) (g : Nat) (lb : Array Value) (eg : ∀ args w, (callFunc g args).run Tryz.prog w = .ok (.enter g args) w) (b off n c : Nat) (zs : List α) (w : World) (hp : PredAt Tryz.prog g lb enc p w) (hz : n ≤ zs.length) (hbig : n ≤ 9223372036854775807) (hc : ∀ j, j < zs.length → w.cell? ⟨b, off + j, none⟩ = some (enc zs[j]!)) :
    Calls Tryz.prog 218 #[.slice (some ⟨b, off, none⟩) n c, .func (.func g) #[] lb] w fun e w' => e = .returned (.bool ((zs.take n).any p)) ∧ ∃ q, w' = w.drewN q := AnyE.slices_ContainsFunc Tryz.laysSlH8_f218 enc p g lb eg b off n c zs w hp hz hbig hc
open Go.RowKit Go.Lib in
open Go.RowKit Go.Lib in
theorem Tryz.slices_ContainsFunc_empty_f218 {α : Type} [Inhabited α] (a : Option Addr) (c : Nat) (fv : Value) (w : World) :
    Calls Tryz.prog 218 #[.slice a 0 c, fv] w fun e w' => e = .returned (.bool false) ∧ w' = w := AnyE.slices_ContainsFunc_empty Tryz.laysSlH8_f218 a c fv w
def Tryz.laysSlH10_f147_ren : Go.Shelf.Ren := ⟨fun | 10 => 147 | 6 => 144 | n => n, fun | 22 => 102 | 23 => 9 | 25 => 108 | 3 => 3 | 4 => 4 | 0 => 0 | n => n, fun | n => n⟩
theorem Tryz.laysSlH10_f147 : Go.Proofs.SlLaysH.n10 Tryz.prog Tryz.laysSlH10_f147_ren := {
  mixed := by kernel_rfl
  f6 := ⟨Tryz.f144.name, by decide, Tryz.func144.trans (congrArg some (by kernel_rfl))⟩
  f10 := ⟨Tryz.f147.name, by decide, Tryz.func147.trans (congrArg some (by kernel_rfl))⟩
  t0 := Tryz.underlying0
  a0 := Tryz.isAgg0
  z0 := Tryz.sizeOf0
  v0 := Tryz.zeroValue0
  t3 := Tryz.underlying3
  a3 := Tryz.isAgg3
  z3 := Tryz.sizeOf3
  v3 := Tryz.zeroValue3
  t4 := Tryz.underlying4
  a4 := Tryz.isAgg4
  z4 := Tryz.sizeOf4
  v4 := Tryz.zeroValue4
  t22 := Tryz.underlying102
  a22 := Tryz.isAgg102
  z22 := Tryz.sizeOf102
  v22 := Tryz.zeroValue102
  a23 := Tryz.isAgg9
  z23 := Tryz.sizeOf9
  t25 := Tryz.underlying108
  a25 := Tryz.isAgg108
  z25 := Tryz.sizeOf108
  v25 := Tryz.zeroValue108 }
open Go.RowKit Go.Lib Go.Sort in
theorem Tryz.slices_DeleteFunc {α : Type} [Inhabited α] (enc : α → Value) (hO : OneCell enc) (p : α → Bool) (g : Nat) (lb : Array Value) (eg : ∀ args w, (callFunc g args).run Tryz.prog w = .ok (.enter g args) w) (zr : α) (v23 : ∀ w, (zeroValue 9).run Tryz.prog w = .ok (enc zr) w) (blk off cap : Nat) (d : Array α) (w : World) (hp : PredAt Tryz.prog g lb enc p w) (hpo : PredOver Tryz.prog g lb enc p blk off d.size w) (hH : Holds enc w blk off d) (hsz : d.size ≤ 9223372036854775807) (hcap : d.size ≤ cap) :
    Calls Tryz.prog 147 #[.slice (some ⟨blk, off, none⟩) d.size cap, .func (.func g) #[] lb] w fun e w' => e = .returned (.slice (some ⟨blk, off, none⟩) (d.toList.filter fun x => !p x).length cap) ∧ ∃ q, w' = putRow enc (Sort.ahead w q) blk off ((d.toList.filter fun x => !p x) ++ List.replicate (d.size - (d.toList.filter fun x => !p x).length) zr).toArray := AnyE.slices_DeleteFunc Tryz.laysSlH10_f147 enc hO p g lb eg zr v23 blk off cap d w hp hpo hH hsz hcap
end Go.Proofs
