/-
  DERIVED: THE SHELF's CONTRACTS AT THIS DUMP, IN PLAIN WORDS (tools/lay-plain.mjs out of 'TryzShelf.lean', which tools/lay-shelf.mjs wrote): THE SAME DECLARATIONS UNDER THE SAME NAMES: 'import', 'namespace', 'open', 'def', 'theorem' AND NOTHING ELSE: no command of the shelf's: FOR A HAND-IN. Each laying: the table of numbers ('.._ren') and one theorem, a field a fact of the dump's own or the kernel
-/
import Derived.Shelf.Strings.Builder1
import Derived.Shelf.Strings.Builder2
import Derived.Shelf.Strings.OnBuilder
import Derived.Shelf.Strings.Trim
import Derived.Shelf.Small.Utf8
import Derived.Shelf.Small.Bits
import Derived.Shelf.Small.Strs
import Derived.Shelf.Small.Wraps
import Derived.Shelf.Strings.BuilderF
import Derived.Shelf.Strings.BuilderK
import Derived.Shelf.Strconv.Itoa0
import Derived.Shelf.Strconv.Itoa1
import Derived.Shelf.LaysM
import Derived.Shelf.Strconv.Itoa2
import Derived.Shelf.Strconv.Itoa3
import Derived.Shelf.Strings.Search1
import Derived.Shelf.Strings.Search2
import Derived.Shelf.Strings.Cut
import Derived.Shelf.Strings.Shaped
import Derived.Shelf.Sort.Plain
import Derived.Shelf.Strings.Prefix
import Derived.Shelf.Unicode.Decode
import Derived.Shelf.Strings.Runes
import Derived.Shelf.Strings.AsciiSet
import Derived.Shelf.Unicode.DecodeSlow
import Derived.Shelf.Unicode.DecodeAny
import Derived.Shelf.Unicode.DecodeLast
import Derived.Shelf.Slices.Turned
import Derived.Shelf.Slices.Equal
import Derived.Ground.Names2Prog
import Derived.Shelf.Slices.Clone
import Derived.Shelf.Slices.CompactI
import Derived.Shelf.Slices.CompactS
import Derived.Shelf.Slices.SearchI
import Derived.Shelf.Slices.Cells
import Derived.Shelf.Slices.In.SortNone
import Derived.Shelf.Slices.Empties2
import Derived.Ground.SlgnProg
import Derived.Shelf.SlicesE.Clone
import Derived.Test.YtnofkliaofgiaaaGreatDoorProg
namespace Go.Proofs
open Go.Shelf
def Tryz.lays169_ren : Go.Shelf.Ren := ⟨fun | 169 => 50 | n => n, fun | 70 => 94 | 9 => 9 | 0 => 0 | 72 => 97 | 37 => 95 | 127 => 192 | 3 => 3 | 5 => 5 | n => n, fun | n => n⟩
theorem Tryz.lays169 : Go.Proofs.Lays.n169 Tryz.prog Tryz.lays169_ren := {
  mixed := by kernel_rfl
  f169 := Tryz.func50.trans (congrArg some (by kernel_rfl))
  t0 := Tryz.underlying0
  a0 := Tryz.isAgg0
  z0 := Tryz.sizeOf0
  v0 := Tryz.zeroValue0
  t3 := Tryz.underlying3
  a3 := Tryz.isAgg3
  z3 := Tryz.sizeOf3
  v3 := Tryz.zeroValue3
  t9 := Tryz.underlying9
  a9 := Tryz.isAgg9
  z9 := Tryz.sizeOf9
  v9 := Tryz.zeroValue9
  t37 := Tryz.underlying95
  a37 := Tryz.isAgg95
  z37 := Tryz.sizeOf95
  v37 := Tryz.zeroValue95
  t70 := Tryz.underlying94
  a70 := Tryz.isAgg94
  z70 := Tryz.sizeOf94
  v70 := Tryz.zeroValue94
  t72 := Tryz.underlying97
  a72 := Tryz.isAgg97
  z72 := Tryz.sizeOf97
  v72 := Tryz.zeroValue97
  t127 := Tryz.underlying192
  a127 := Tryz.isAgg192
  z127 := Tryz.sizeOf192
  v127 := Tryz.zeroValue192 }
theorem Tryz.Builder_Extra_169 : Builder.Extra Tryz.prog Tryz.lays169_ren := {
  sizeBuilder := by kernel_rfl
  liesBuilder := by kernel_rfl
  t5 := Tryz.underlying5
  a5 := Tryz.isAgg5
  z5 := Tryz.sizeOf5
  v5 := Tryz.zeroValue5
  infoByte := by kernel_rfl
  cellsByte := by kernel_rfl
  sizeByte := by kernel_rfl
  neB5 := by decide }
def Tryz.lays156_ren : Go.Shelf.Ren := ⟨fun | 156 => 42 | 165 => 109 | 166 => 40 | 169 => 50 | 240 => 107 | 241 => 170 | 276 => 168 | 277 => 208 | n => n, fun | 31 => 38 | 9 => 9 | 3 => 3 | 4 => 4 | 0 => 0 | 20 => 20 | 72 => 97 | 76 => 100 | 70 => 94 | 37 => 95 | 75 => 99 | 127 => 192 | 164 => 229 | 5 => 5 | 80 => 113 | n => n, fun | n => n⟩
theorem Tryz.lays156 : Go.Proofs.Lays.n156 Tryz.prog Tryz.lays156_ren := {
  mixed := by kernel_rfl
  f156 := Tryz.func42.trans (congrArg some (by kernel_rfl))
  f165 := Tryz.func109.trans (congrArg some (by kernel_rfl))
  f166 := Tryz.func40.trans (congrArg some (by kernel_rfl))
  f169 := Tryz.func50.trans (congrArg some (by kernel_rfl))
  f240 := Tryz.func107.trans (congrArg some (by kernel_rfl))
  f241 := Tryz.func170.trans (congrArg some (by kernel_rfl))
  f276 := Tryz.func168.trans (congrArg some (by kernel_rfl))
  f277 := Tryz.func208.trans (congrArg some (by kernel_rfl))
  t0 := Tryz.underlying0
  a0 := Tryz.isAgg0
  z0 := Tryz.sizeOf0
  v0 := Tryz.zeroValue0
  t3 := Tryz.underlying3
  a3 := Tryz.isAgg3
  z3 := Tryz.sizeOf3
  v3 := Tryz.zeroValue3
  t4 := Tryz.underlying4
  a4 := Tryz.isAgg4
  z4 := Tryz.sizeOf4
  v4 := Tryz.zeroValue4
  t9 := Tryz.underlying9
  a9 := Tryz.isAgg9
  z9 := Tryz.sizeOf9
  v9 := Tryz.zeroValue9
  t20 := Tryz.underlying20
  a20 := Tryz.isAgg20
  z20 := Tryz.sizeOf20
  v20 := Tryz.zeroValue20
  t31 := Tryz.underlying38
  a31 := Tryz.isAgg38
  z31 := Tryz.sizeOf38
  v31 := Tryz.zeroValue38
  t37 := Tryz.underlying95
  a37 := Tryz.isAgg95
  z37 := Tryz.sizeOf95
  v37 := Tryz.zeroValue95
  t70 := Tryz.underlying94
  a70 := Tryz.isAgg94
  z70 := Tryz.sizeOf94
  v70 := Tryz.zeroValue94
  t72 := Tryz.underlying97
  a72 := Tryz.isAgg97
  z72 := Tryz.sizeOf97
  v72 := Tryz.zeroValue97
  t75 := Tryz.underlying99
  a75 := Tryz.isAgg99
  z75 := Tryz.sizeOf99
  v75 := Tryz.zeroValue99
  t76 := Tryz.underlying100
  a76 := Tryz.isAgg100
  z76 := Tryz.sizeOf100
  v76 := Tryz.zeroValue100
  t127 := Tryz.underlying192
  a127 := Tryz.isAgg192
  z127 := Tryz.sizeOf192
  v127 := Tryz.zeroValue192
  t164 := Tryz.underlying229
  a164 := Tryz.isAgg229
  z164 := Tryz.sizeOf229
  v164 := Tryz.zeroValue229 }
theorem Tryz.Builder_Extra_156 : Builder.Extra Tryz.prog Tryz.lays156_ren := {
  sizeBuilder := by kernel_rfl
  liesBuilder := by kernel_rfl
  t5 := Tryz.underlying5
  a5 := Tryz.isAgg5
  z5 := Tryz.sizeOf5
  v5 := Tryz.zeroValue5
  infoByte := by kernel_rfl
  cellsByte := by kernel_rfl
  sizeByte := by kernel_rfl
  neB5 := by decide }
open Go.RowKit in
theorem Tryz.strings_Join_none (a : Option Addr) (c : Nat) (sep : ByteArray) (w : World) :
    Calls Tryz.prog 42 #[.slice a 0 c, .string sep] w fun e w' => e = .returned (.string ⟨#[]⟩) ∧ w' = w := Any.strings_Join_none Tryz.lays156 Tryz.Builder_Extra_156 a c sep w
open Go.RowKit in
theorem Tryz.strings_Join (bk o c : Nat) (xs : List ByteArray) (sep : ByteArray) (w : World) (hcells : ∀ (j : Nat) x, xs[j]? = some x → w.cell? ⟨bk, o + j, none⟩ = some (.string x)) (hbk : bk < w.heap.size) (hN : xs.length ≤ 140737488355328) (hcap : xs.length ≤ c) (hlen : (Lib.join (xs.map (·.data.toList)) sep.data.toList).length ≤ 140737488355328) :
    Calls Tryz.prog 42 #[.slice (some ⟨bk, o, none⟩) xs.length c, .string sep] w fun e w' => e = .returned (.string ⟨(Lib.join (xs.map (·.data.toList)) sep.data.toList).toArray⟩) ∧ Below w.heap.size w w' := Any.strings_Join Tryz.lays156 Tryz.Builder_Extra_156 bk o c xs sep w hcells hbk hN hcap hlen
def Tryz.lays160_ren : Go.Shelf.Ren := ⟨fun | 160 => 235 | 232 => 263 | 231 => 262 | 227 => 264 | 234 => 266 | 233 => 265 | 236 => 268 | 235 => 267 | 228 => 280 | 271 => 283 | 151 => 282 | 197 => 281 | 120 => 291 | 152 => 290 | 260 => 289 | 137 => 155 | 119 => 293 | 224 => 287 | 225 => 286 | 217 => 187 | 266 => 236 | n => n, fun | 9 => 9 | 4 => 4 | 3 => 3 | 5 => 5 | 117 => 302 | 116 => 301 | 0 => 0 | 124 => 305 | 21 => 21 | 105 => 317 | 46 => 221 | 119 => 325 | 139 => 328 | 138 => 327 | n => n, fun | 3 => 4 | 4 => 5 | n => n⟩
theorem Tryz.lays160 : Go.Proofs.Lays.n160 Tryz.prog Tryz.lays160_ren := {
  mixed := by kernel_rfl
  f119 := Tryz.func293.trans (congrArg some (by kernel_rfl))
  f120 := Tryz.func291.trans (congrArg some (by kernel_rfl))
  f137 := Tryz.func155.trans (congrArg some (by kernel_rfl))
  f151 := Tryz.func282.trans (congrArg some (by kernel_rfl))
  f152 := Tryz.func290.trans (congrArg some (by kernel_rfl))
  f160 := Tryz.func235.trans (congrArg some (by kernel_rfl))
  f197 := Tryz.func281.trans (congrArg some (by kernel_rfl))
  f217 := Tryz.func187.trans (congrArg some (by kernel_rfl))
  f224 := Tryz.func287.trans (congrArg some (by kernel_rfl))
  f225 := Tryz.func286.trans (congrArg some (by kernel_rfl))
  f227 := Tryz.func264.trans (congrArg some (by kernel_rfl))
  f228 := Tryz.func280.trans (congrArg some (by kernel_rfl))
  f231 := Tryz.func262.trans (congrArg some (by kernel_rfl))
  f232 := Tryz.func263.trans (congrArg some (by kernel_rfl))
  f233 := Tryz.func265.trans (congrArg some (by kernel_rfl))
  f234 := Tryz.func266.trans (congrArg some (by kernel_rfl))
  f235 := Tryz.func267.trans (congrArg some (by kernel_rfl))
  f236 := Tryz.func268.trans (congrArg some (by kernel_rfl))
  f260 := Tryz.func289.trans (congrArg some (by kernel_rfl))
  f266 := Tryz.func236.trans (congrArg some (by kernel_rfl))
  f271 := Tryz.func283.trans (congrArg some (by kernel_rfl))
  t0 := Tryz.underlying0
  a0 := Tryz.isAgg0
  z0 := Tryz.sizeOf0
  v0 := Tryz.zeroValue0
  t3 := Tryz.underlying3
  a3 := Tryz.isAgg3
  z3 := Tryz.sizeOf3
  v3 := Tryz.zeroValue3
  t4 := Tryz.underlying4
  a4 := Tryz.isAgg4
  z4 := Tryz.sizeOf4
  v4 := Tryz.zeroValue4
  t5 := Tryz.underlying5
  a5 := Tryz.isAgg5
  z5 := Tryz.sizeOf5
  v5 := Tryz.zeroValue5
  t9 := Tryz.underlying9
  a9 := Tryz.isAgg9
  z9 := Tryz.sizeOf9
  v9 := Tryz.zeroValue9
  t21 := Tryz.underlying21
  a21 := Tryz.isAgg21
  z21 := Tryz.sizeOf21
  v21 := Tryz.zeroValue21
  t46 := Tryz.underlying221
  a46 := Tryz.isAgg221
  z46 := Tryz.sizeOf221
  v46 := Tryz.zeroValue221
  t105 := Tryz.underlying317
  a105 := Tryz.isAgg317
  z105 := Tryz.sizeOf317
  v105 := Tryz.zeroValue317
  t116 := Tryz.underlying301
  a116 := Tryz.isAgg301
  z116 := Tryz.sizeOf301
  t117 := Tryz.underlying302
  a117 := Tryz.isAgg302
  z117 := Tryz.sizeOf302
  v117 := Tryz.zeroValue302
  t119 := Tryz.underlying325
  a119 := Tryz.isAgg325
  z119 := Tryz.sizeOf325
  t124 := Tryz.underlying305
  a124 := Tryz.isAgg305
  z124 := Tryz.sizeOf305
  v124 := Tryz.zeroValue305
  t138 := Tryz.underlying327
  a138 := Tryz.isAgg327
  z138 := Tryz.sizeOf327
  v138 := Tryz.zeroValue327
  t139 := Tryz.underlying328
  a139 := Tryz.isAgg328
  z139 := Tryz.sizeOf328
  v139 := Tryz.zeroValue328
  g3 := by kernel_rfl
  g4 := by kernel_rfl }
def Tryz.lays137_ren : Go.Shelf.Ren := ⟨fun | 137 => 155 | 217 => 187 | 266 => 236 | n => n, fun | 9 => 9 | 5 => 5 | 3 => 3 | n => n, fun | n => n⟩
theorem Tryz.lays137 : Go.Proofs.Lays.n137 Tryz.prog Tryz.lays137_ren := {
  mixed := by kernel_rfl
  f137 := Tryz.func155.trans (congrArg some (by kernel_rfl))
  f217 := Tryz.func187.trans (congrArg some (by kernel_rfl))
  f266 := Tryz.func236.trans (congrArg some (by kernel_rfl))
  t3 := Tryz.underlying3
  a3 := Tryz.isAgg3
  z3 := Tryz.sizeOf3
  v3 := Tryz.zeroValue3
  t5 := Tryz.underlying5
  a5 := Tryz.isAgg5
  z5 := Tryz.sizeOf5
  v5 := Tryz.zeroValue5
  t9 := Tryz.underlying9
  a9 := Tryz.isAgg9
  z9 := Tryz.sizeOf9
  v9 := Tryz.zeroValue9 }
open Go.RowKit in
theorem Tryz.strings_IndexByte (s : ByteArray) (c : Int) (w : World) :
    Calls Tryz.prog 155 #[.string s, .int .u8 c] w fun e w' => e = .returned (.int .i64 (Lib.indexByte s.data.toList c.toNat.toUInt8)) ∧ w' = w := Any.strings_IndexByte Tryz.lays137 s c w
open Go.RowKit in
theorem Tryz.Builder_String_any_k (B b : Nat) (l : List UInt8) (w : World) (h : Lib.IsBuilderF 97 5 B b (Lib.byteCells l) w) (hBw : B ≤ w.heap.size) :
    Calls Tryz.prog 50 #[.pointer (some ⟨b, 0, none⟩)] w fun e w' => e = .returned (.string ⟨l.toArray⟩) ∧ (Lib.IsBuilderF 97 5 B b (Lib.byteCells l) w' ∧ Below B w w' ∧ Lib.OthersKept 5 (some b) w w') := Any.Builder_String_any_k Tryz.lays169 Tryz.Builder_Extra_169 B b l w h hBw
def Tryz.laysM171_ren : Go.Shelf.Ren := ⟨fun | 171 => 108 | 243 => 169 | 246 => 207 | 283 => 247 | 284 => 248 | 285 => 249 | 286 => 250 | 129 => 197 | 317 => 272 | 318 => 273 | 319 => 274 | 320 => 275 | 337 => 284 | 338 => 285 | n => n, fun | 3 => 3 | 9 => 9 | 2 => 2 | 4 => 4 | 171 => 291 | 0 => 0 | 53 => 253 | 37 => 95 | 5 => 5 | 173 => 293 | 212 => 311 | 51 => 251 | 20 => 20 | 213 => 312 | 46 => 221 | 232 => 321 | 233 => 322 | n => n, fun | 17 => 1 | 18 => 2 | 19 => 3 | n => n⟩
theorem Tryz.laysM171 : Go.Proofs.LaysM.n171 Tryz.prog Tryz.laysM171_ren := {
  mixed := by kernel_rfl
  f129 := Tryz.func197.trans (congrArg some (by kernel_rfl))
  f171 := Tryz.func108.trans (congrArg some (by kernel_rfl))
  f243 := Tryz.func169.trans (congrArg some (by kernel_rfl))
  f246 := Tryz.func207.trans (congrArg some (by kernel_rfl))
  f283 := Tryz.func247.trans (congrArg some (by kernel_rfl))
  f284 := Tryz.func248.trans (congrArg some (by kernel_rfl))
  f285 := Tryz.func249.trans (congrArg some (by kernel_rfl))
  f286 := Tryz.func250.trans (congrArg some (by kernel_rfl))
  f317 := Tryz.func272.trans (congrArg some (by kernel_rfl))
  f318 := Tryz.func273.trans (congrArg some (by kernel_rfl))
  f319 := Tryz.func274.trans (congrArg some (by kernel_rfl))
  f320 := Tryz.func275.trans (congrArg some (by kernel_rfl))
  f337 := Tryz.func284.trans (congrArg some (by kernel_rfl))
  f338 := Tryz.func285.trans (congrArg some (by kernel_rfl))
  t0 := Tryz.underlying0
  a0 := Tryz.isAgg0
  z0 := Tryz.sizeOf0
  v0 := Tryz.zeroValue0
  t2 := Tryz.underlying2
  a2 := Tryz.isAgg2
  z2 := Tryz.sizeOf2
  v2 := Tryz.zeroValue2
  t3 := Tryz.underlying3
  a3 := Tryz.isAgg3
  z3 := Tryz.sizeOf3
  v3 := Tryz.zeroValue3
  t4 := Tryz.underlying4
  a4 := Tryz.isAgg4
  z4 := Tryz.sizeOf4
  v4 := Tryz.zeroValue4
  t5 := Tryz.underlying5
  a5 := Tryz.isAgg5
  z5 := Tryz.sizeOf5
  v5 := Tryz.zeroValue5
  t9 := Tryz.underlying9
  a9 := Tryz.isAgg9
  z9 := Tryz.sizeOf9
  v9 := Tryz.zeroValue9
  t20 := Tryz.underlying20
  a20 := Tryz.isAgg20
  z20 := Tryz.sizeOf20
  v20 := Tryz.zeroValue20
  t37 := Tryz.underlying95
  a37 := Tryz.isAgg95
  z37 := Tryz.sizeOf95
  v37 := Tryz.zeroValue95
  t46 := Tryz.underlying221
  a46 := Tryz.isAgg221
  z46 := Tryz.sizeOf221
  v46 := Tryz.zeroValue221
  t51 := Tryz.underlying251
  a51 := Tryz.isAgg251
  z51 := Tryz.sizeOf251
  v51 := Tryz.zeroValue251
  t53 := Tryz.underlying253
  a53 := Tryz.isAgg253
  z53 := Tryz.sizeOf253
  v53 := Tryz.zeroValue253
  t171 := Tryz.underlying291
  a171 := Tryz.isAgg291
  z171 := Tryz.sizeOf291
  v171 := Tryz.zeroValue291
  t173 := Tryz.underlying293
  a173 := Tryz.isAgg293
  z173 := Tryz.sizeOf293
  v173 := Tryz.zeroValue293
  t212 := Tryz.underlying311
  a212 := Tryz.isAgg311
  z212 := Tryz.sizeOf311
  v212 := Tryz.zeroValue311
  t213 := Tryz.underlying312
  a213 := Tryz.isAgg312
  z213 := Tryz.sizeOf312
  t232 := Tryz.underlying321
  a232 := Tryz.isAgg321
  z232 := Tryz.sizeOf321
  v232 := Tryz.zeroValue321
  t233 := Tryz.underlying322
  a233 := Tryz.isAgg322
  z233 := Tryz.sizeOf322
  v233 := Tryz.zeroValue322
  g17 := by kernel_rfl
  g18 := by kernel_rfl
  g19 := by kernel_rfl
  i0 := by kernel_rfl
  i2 := by kernel_rfl
  i3 := by kernel_rfl
  i4 := by kernel_rfl
  i5 := by kernel_rfl
  i9 := by kernel_rfl
  i20 := by kernel_rfl
  i37 := by kernel_rfl
  i46 := by kernel_rfl
  i51 := by kernel_rfl
  i53 := by kernel_rfl
  i171 := by kernel_rfl
  i173 := by kernel_rfl
  i212 := by kernel_rfl
  i232 := by kernel_rfl
  i233 := by kernel_rfl
  m17 := by kernel_rfl
  m18 := by kernel_rfl
  m19 := by kernel_rfl }
open Go.RowKit Go.Sort Go.Lib in
theorem Tryz.strconv_Itoa (n : Int) (h0 : -9223372036854775808 ≤ n) (h1 : n ≤ 9223372036854775807) (w : World) (htab : Lib.TabIs Tryz.prog w "internal/strconv.uint64pow10" .u64 Lib.pow10Tab) :
    Calls Tryz.prog 108 #[.int .i64 n] w fun e w' => e = .returned (.string ⟨(Lib.itoa n).toArray⟩) ∧ ∃ k os, w' = grow (w.drewN k) os := Any.strconv_Itoa Tryz.laysM171 n h0 h1 w htab
def Tryz.lays145_ren : Go.Shelf.Ren := ⟨fun | 145 => 234 | 220 => 261 | 219 => 279 | 217 => 187 | 225 => 286 | 224 => 287 | 267 => 288 | 266 => 236 | 314 => 292 | n => n, fun | 9 => 9 | 4 => 4 | 59 => 280 | 3 => 3 | 5 => 5 | 46 => 221 | 146 => 323 | 51 => 251 | n => n, fun | 1 => 0 | n => n⟩
theorem Tryz.lays145 : Go.Proofs.Lays.n145 Tryz.prog Tryz.lays145_ren := {
  mixed := by kernel_rfl
  f145 := Tryz.func234.trans (congrArg some (by kernel_rfl))
  f217 := Tryz.func187.trans (congrArg some (by kernel_rfl))
  f219 := Tryz.func279.trans (congrArg some (by kernel_rfl))
  f220 := Tryz.func261.trans (congrArg some (by kernel_rfl))
  f224 := Tryz.func287.trans (congrArg some (by kernel_rfl))
  f225 := Tryz.func286.trans (congrArg some (by kernel_rfl))
  f266 := Tryz.func236.trans (congrArg some (by kernel_rfl))
  f267 := Tryz.func288.trans (congrArg some (by kernel_rfl))
  f314 := Tryz.func292.trans (congrArg some (by kernel_rfl))
  t3 := Tryz.underlying3
  a3 := Tryz.isAgg3
  z3 := Tryz.sizeOf3
  v3 := Tryz.zeroValue3
  t4 := Tryz.underlying4
  a4 := Tryz.isAgg4
  z4 := Tryz.sizeOf4
  v4 := Tryz.zeroValue4
  t5 := Tryz.underlying5
  a5 := Tryz.isAgg5
  z5 := Tryz.sizeOf5
  v5 := Tryz.zeroValue5
  t9 := Tryz.underlying9
  a9 := Tryz.isAgg9
  z9 := Tryz.sizeOf9
  v9 := Tryz.zeroValue9
  t46 := Tryz.underlying221
  a46 := Tryz.isAgg221
  z46 := Tryz.sizeOf221
  v46 := Tryz.zeroValue221
  t51 := Tryz.underlying251
  a51 := Tryz.isAgg251
  z51 := Tryz.sizeOf251
  v51 := Tryz.zeroValue251
  t59 := Tryz.underlying280
  a59 := Tryz.isAgg280
  z59 := Tryz.sizeOf280
  v59 := Tryz.zeroValue280
  t146 := Tryz.underlying323
  a146 := Tryz.isAgg323
  z146 := Tryz.sizeOf323
  v146 := Tryz.zeroValue323
  g1 := by kernel_rfl }
def Tryz.lays189_ren : Go.Shelf.Ren := ⟨fun | 189 => 146 | 125 => 157 | 257 => 183 | 128 => 196 | 129 => 197 | 294 => 223 | 295 => 224 | 296 => 225 | 297 => 226 | 298 => 227 | 299 => 228 | 216 => 229 | 300 => 230 | 301 => 231 | 328 => 257 | 329 => 238 | 330 => 239 | 331 => 258 | 332 => 259 | 215 => 158 | 343 => 277 | n => n, fun | 28 => 35 | 3 => 3 | 46 => 221 | 0 => 0 | 51 => 251 | 53 => 253 | 4 => 4 | 183 => 245 | 182 => 244 | 131 => 115 | 5 => 5 | 9 => 9 | 218 => 282 | 222 => 286 | 228 => 306 | 229 => 127 | n => n, fun | n => n⟩
theorem Tryz.lays189 : Go.Proofs.Lays.n189 Tryz.prog Tryz.lays189_ren := {
  mixed := by kernel_rfl
  f125 := Tryz.func157.trans (congrArg some (by kernel_rfl))
  f128 := Tryz.func196.trans (congrArg some (by kernel_rfl))
  f129 := Tryz.func197.trans (congrArg some (by kernel_rfl))
  f189 := Tryz.func146.trans (congrArg some (by kernel_rfl))
  f215 := Tryz.func158.trans (congrArg some (by kernel_rfl))
  f216 := Tryz.func229.trans (congrArg some (by kernel_rfl))
  f257 := Tryz.func183.trans (congrArg some (by kernel_rfl))
  f294 := Tryz.func223.trans (congrArg some (by kernel_rfl))
  f295 := Tryz.func224.trans (congrArg some (by kernel_rfl))
  f296 := Tryz.func225.trans (congrArg some (by kernel_rfl))
  f297 := Tryz.func226.trans (congrArg some (by kernel_rfl))
  f298 := Tryz.func227.trans (congrArg some (by kernel_rfl))
  f299 := Tryz.func228.trans (congrArg some (by kernel_rfl))
  f300 := Tryz.func230.trans (congrArg some (by kernel_rfl))
  f301 := Tryz.func231.trans (congrArg some (by kernel_rfl))
  f328 := Tryz.func257.trans (congrArg some (by kernel_rfl))
  f329 := Tryz.func238.trans (congrArg some (by kernel_rfl))
  f330 := Tryz.func239.trans (congrArg some (by kernel_rfl))
  f331 := Tryz.func258.trans (congrArg some (by kernel_rfl))
  f332 := Tryz.func259.trans (congrArg some (by kernel_rfl))
  f343 := Tryz.func277.trans (congrArg some (by kernel_rfl))
  t0 := Tryz.underlying0
  a0 := Tryz.isAgg0
  z0 := Tryz.sizeOf0
  v0 := Tryz.zeroValue0
  t3 := Tryz.underlying3
  a3 := Tryz.isAgg3
  z3 := Tryz.sizeOf3
  v3 := Tryz.zeroValue3
  t4 := Tryz.underlying4
  a4 := Tryz.isAgg4
  z4 := Tryz.sizeOf4
  v4 := Tryz.zeroValue4
  t5 := Tryz.underlying5
  a5 := Tryz.isAgg5
  z5 := Tryz.sizeOf5
  v5 := Tryz.zeroValue5
  t9 := Tryz.underlying9
  a9 := Tryz.isAgg9
  z9 := Tryz.sizeOf9
  v9 := Tryz.zeroValue9
  t28 := Tryz.underlying35
  a28 := Tryz.isAgg35
  z28 := Tryz.sizeOf35
  v28 := Tryz.zeroValue35
  t46 := Tryz.underlying221
  a46 := Tryz.isAgg221
  z46 := Tryz.sizeOf221
  v46 := Tryz.zeroValue221
  t51 := Tryz.underlying251
  a51 := Tryz.isAgg251
  z51 := Tryz.sizeOf251
  v51 := Tryz.zeroValue251
  t53 := Tryz.underlying253
  a53 := Tryz.isAgg253
  z53 := Tryz.sizeOf253
  v53 := Tryz.zeroValue253
  t131 := Tryz.underlying115
  a131 := Tryz.isAgg115
  z131 := Tryz.sizeOf115
  v131 := Tryz.zeroValue115
  t182 := Tryz.underlying244
  a182 := Tryz.isAgg244
  z182 := Tryz.sizeOf244
  v182 := Tryz.zeroValue244
  t183 := Tryz.underlying245
  a183 := Tryz.isAgg245
  z183 := Tryz.sizeOf245
  v183 := Tryz.zeroValue245
  t218 := Tryz.underlying282
  a218 := Tryz.isAgg282
  z218 := Tryz.sizeOf282
  v218 := Tryz.zeroValue282
  t222 := Tryz.underlying286
  a222 := Tryz.isAgg286
  z222 := Tryz.sizeOf286
  v222 := Tryz.zeroValue286
  t228 := Tryz.underlying306
  a228 := Tryz.isAgg306
  z228 := Tryz.sizeOf306
  v228 := Tryz.zeroValue306
  t229 := Tryz.underlying127
  a229 := Tryz.isAgg127
  z229 := Tryz.sizeOf127
  v229 := Tryz.zeroValue127 }
open Go.Sort Go.RowKit in
theorem Tryz.slices_Sort_int (blk off cap : Nat) (zs : List Int) (w : World) (hH : Holds (Value.int .i64) w blk off zs.toArray) (hblk : blk < w.heap.size) (hsz : zs.length < 4611686018427387904) :
    Calls Tryz.prog 146 #[.slice (some ⟨blk, off, none⟩) zs.length cap] w fun e w' =>
      e = .returned (.tuple #[]) ∧ ∃ n os, w' = grow (putRow (Value.int .i64) (Sort.ahead w n) blk off (zs.mergeSort fun x y => decide (x ≤ y)).toArray) os := Any.slices_Sort_int Tryz.lays189 blk off cap zs w hH hblk hsz
def Tryz.lays190_ren : Go.Shelf.Ren := ⟨fun | 190 => 144 | 125 => 157 | 258 => 182 | 128 => 196 | 129 => 197 | 302 => 214 | 303 => 215 | 304 => 216 | 305 => 217 | 306 => 218 | 307 => 219 | 308 => 220 | 309 => 221 | 310 => 222 | 333 => 253 | 329 => 238 | 330 => 239 | 334 => 254 | 335 => 255 | 336 => 256 | 344 => 276 | n => n, fun | 31 => 38 | 9 => 9 | 3 => 3 | 46 => 221 | 0 => 0 | 51 => 251 | 53 => 253 | 4 => 4 | 183 => 245 | 182 => 244 | 131 => 115 | 5 => 5 | 218 => 282 | 222 => 286 | 228 => 306 | 229 => 127 | n => n, fun | n => n⟩
theorem Tryz.lays190 : Go.Proofs.Lays.n190 Tryz.prog Tryz.lays190_ren := {
  mixed := by kernel_rfl
  f125 := Tryz.func157.trans (congrArg some (by kernel_rfl))
  f128 := Tryz.func196.trans (congrArg some (by kernel_rfl))
  f129 := Tryz.func197.trans (congrArg some (by kernel_rfl))
  f190 := Tryz.func144.trans (congrArg some (by kernel_rfl))
  f258 := Tryz.func182.trans (congrArg some (by kernel_rfl))
  f302 := Tryz.func214.trans (congrArg some (by kernel_rfl))
  f303 := Tryz.func215.trans (congrArg some (by kernel_rfl))
  f304 := Tryz.func216.trans (congrArg some (by kernel_rfl))
  f305 := Tryz.func217.trans (congrArg some (by kernel_rfl))
  f306 := Tryz.func218.trans (congrArg some (by kernel_rfl))
  f307 := Tryz.func219.trans (congrArg some (by kernel_rfl))
  f308 := Tryz.func220.trans (congrArg some (by kernel_rfl))
  f309 := Tryz.func221.trans (congrArg some (by kernel_rfl))
  f310 := Tryz.func222.trans (congrArg some (by kernel_rfl))
  f329 := Tryz.func238.trans (congrArg some (by kernel_rfl))
  f330 := Tryz.func239.trans (congrArg some (by kernel_rfl))
  f333 := Tryz.func253.trans (congrArg some (by kernel_rfl))
  f334 := Tryz.func254.trans (congrArg some (by kernel_rfl))
  f335 := Tryz.func255.trans (congrArg some (by kernel_rfl))
  f336 := Tryz.func256.trans (congrArg some (by kernel_rfl))
  f344 := Tryz.func276.trans (congrArg some (by kernel_rfl))
  t0 := Tryz.underlying0
  a0 := Tryz.isAgg0
  z0 := Tryz.sizeOf0
  v0 := Tryz.zeroValue0
  t3 := Tryz.underlying3
  a3 := Tryz.isAgg3
  z3 := Tryz.sizeOf3
  v3 := Tryz.zeroValue3
  t4 := Tryz.underlying4
  a4 := Tryz.isAgg4
  z4 := Tryz.sizeOf4
  v4 := Tryz.zeroValue4
  t5 := Tryz.underlying5
  a5 := Tryz.isAgg5
  z5 := Tryz.sizeOf5
  v5 := Tryz.zeroValue5
  t9 := Tryz.underlying9
  a9 := Tryz.isAgg9
  z9 := Tryz.sizeOf9
  v9 := Tryz.zeroValue9
  t31 := Tryz.underlying38
  a31 := Tryz.isAgg38
  z31 := Tryz.sizeOf38
  v31 := Tryz.zeroValue38
  t46 := Tryz.underlying221
  a46 := Tryz.isAgg221
  z46 := Tryz.sizeOf221
  v46 := Tryz.zeroValue221
  t51 := Tryz.underlying251
  a51 := Tryz.isAgg251
  z51 := Tryz.sizeOf251
  v51 := Tryz.zeroValue251
  t53 := Tryz.underlying253
  a53 := Tryz.isAgg253
  z53 := Tryz.sizeOf253
  v53 := Tryz.zeroValue253
  t131 := Tryz.underlying115
  a131 := Tryz.isAgg115
  z131 := Tryz.sizeOf115
  v131 := Tryz.zeroValue115
  t182 := Tryz.underlying244
  a182 := Tryz.isAgg244
  z182 := Tryz.sizeOf244
  v182 := Tryz.zeroValue244
  t183 := Tryz.underlying245
  a183 := Tryz.isAgg245
  z183 := Tryz.sizeOf245
  v183 := Tryz.zeroValue245
  t218 := Tryz.underlying282
  a218 := Tryz.isAgg282
  z218 := Tryz.sizeOf282
  v218 := Tryz.zeroValue282
  t222 := Tryz.underlying286
  a222 := Tryz.isAgg286
  z222 := Tryz.sizeOf286
  v222 := Tryz.zeroValue286
  t228 := Tryz.underlying306
  a228 := Tryz.isAgg306
  z228 := Tryz.sizeOf306
  v228 := Tryz.zeroValue306
  t229 := Tryz.underlying127
  a229 := Tryz.isAgg127
  z229 := Tryz.sizeOf127
  v229 := Tryz.zeroValue127 }
open Go.Sort Go.RowKit in
theorem Tryz.slices_Sort_string (blk off cap : Nat) (ss : List (List UInt8)) (w : World) (hH : Holds encStr w blk off ss.toArray) (hblk : blk < w.heap.size) (hsz : ss.length < 4611686018427387904) :
    Calls Tryz.prog 144 #[.slice (some ⟨blk, off, none⟩) ss.length cap] w fun e w' =>
      e = .returned (.tuple #[]) ∧ ∃ n os, w' = grow (putRow encStr (Sort.ahead w n) blk off (ss.mergeSort fun x y => decide (x ≤ y)).toArray) os := Any.slices_Sort_string Tryz.lays190 blk off cap ss w hH hblk hsz
def Tryz.lays102_ren : Go.Shelf.Ren := ⟨fun | 102 => 233 | 209 => 260 | 207 => 278 | n => n, fun | 9 => 9 | 4 => 4 | 3 => 3 | n => n, fun | n => n⟩
theorem Tryz.lays102 : Go.Proofs.Lays.n102 Tryz.prog Tryz.lays102_ren := {
  mixed := by kernel_rfl
  f102 := Tryz.func233.trans (congrArg some (by kernel_rfl))
  f207 := Tryz.func278.trans (congrArg some (by kernel_rfl))
  f209 := Tryz.func260.trans (congrArg some (by kernel_rfl))
  t3 := Tryz.underlying3
  a3 := Tryz.isAgg3
  z3 := Tryz.sizeOf3
  v3 := Tryz.zeroValue3
  t4 := Tryz.underlying4
  a4 := Tryz.isAgg4
  z4 := Tryz.sizeOf4
  v4 := Tryz.zeroValue4
  t9 := Tryz.underlying9
  a9 := Tryz.isAgg9
  z9 := Tryz.sizeOf9
  v9 := Tryz.zeroValue9 }
open Go.RowKit Go.Lib in
theorem Tryz.strings_TrimSuffix (s p : ByteArray) (w : World) (hs : s.size ≤ 9223372036854775807) :
    Calls Tryz.prog 233 #[.string s, .string p] w fun e w' => e = .returned (.string ⟨(Lib.trimSuffix s.data.toList p.data.toList).toArray⟩) ∧ w' = w := Any.strings_TrimSuffix Tryz.lays102 s p w hs
def Tryz.lays107_ren : Go.Shelf.Ren := ⟨fun | 107 => 94 | 108 => 162 | n => n, fun | 28 => 35 | 3 => 3 | 4 => 4 | 0 => 0 | n => n, fun | n => n⟩
theorem Tryz.lays107 : Go.Proofs.Lays.n107 Tryz.prog Tryz.lays107_ren := {
  mixed := by kernel_rfl
  f107 := Tryz.func94.trans (congrArg some (by kernel_rfl))
  f108 := Tryz.func162.trans (congrArg some (by kernel_rfl))
  t0 := Tryz.underlying0
  a0 := Tryz.isAgg0
  z0 := Tryz.sizeOf0
  v0 := Tryz.zeroValue0
  t3 := Tryz.underlying3
  a3 := Tryz.isAgg3
  z3 := Tryz.sizeOf3
  v3 := Tryz.zeroValue3
  t4 := Tryz.underlying4
  a4 := Tryz.isAgg4
  z4 := Tryz.sizeOf4
  v4 := Tryz.zeroValue4
  t28 := Tryz.underlying35
  a28 := Tryz.isAgg35
  z28 := Tryz.sizeOf35
  v28 := Tryz.zeroValue35 }
open Go.Lib in
theorem Tryz.slices_Contains_int (b off n c : Nat) (zs : List Int) (x : Int) (w : World) (hz : n ≤ zs.length) (hbig : n ≤ 9223372036854775807) (hc : ∀ j, j < zs.length → w.cell? ⟨b, off + j, none⟩ = some (.int .i64 (zs.getD j 0))) :
    Calls Tryz.prog 94 #[.slice (some ⟨b, off, none⟩) n c, .int .i64 x] w fun e w' => e = .returned (.bool ((zs.take n).contains x)) ∧ w' = w := Any.slices_Contains_int Tryz.lays107 b off n c zs x w hz hbig hc
open Go.Lib in
theorem Tryz.slices_Contains_int_empty (a : Option Addr) (c : Nat) (x : Int) (w : World) :
    Calls Tryz.prog 94 #[.slice a 0 c, .int .i64 x] w fun e w' => e = .returned (.bool false) ∧ w' = w := Any.slices_Contains_int_empty Tryz.lays107 a c x w
def Tryz.lays110_ren : Go.Shelf.Ren := ⟨fun | 110 => 89 | 109 => 161 | n => n, fun | 31 => 38 | 9 => 9 | 4 => 4 | 3 => 3 | 0 => 0 | n => n, fun | n => n⟩
theorem Tryz.lays110 : Go.Proofs.Lays.n110 Tryz.prog Tryz.lays110_ren := {
  mixed := by kernel_rfl
  f109 := Tryz.func161.trans (congrArg some (by kernel_rfl))
  f110 := Tryz.func89.trans (congrArg some (by kernel_rfl))
  t0 := Tryz.underlying0
  a0 := Tryz.isAgg0
  z0 := Tryz.sizeOf0
  v0 := Tryz.zeroValue0
  t3 := Tryz.underlying3
  a3 := Tryz.isAgg3
  z3 := Tryz.sizeOf3
  v3 := Tryz.zeroValue3
  t4 := Tryz.underlying4
  a4 := Tryz.isAgg4
  z4 := Tryz.sizeOf4
  v4 := Tryz.zeroValue4
  t9 := Tryz.underlying9
  a9 := Tryz.isAgg9
  z9 := Tryz.sizeOf9
  v9 := Tryz.zeroValue9
  t31 := Tryz.underlying38
  a31 := Tryz.isAgg38
  z31 := Tryz.sizeOf38
  v31 := Tryz.zeroValue38 }
open Go.Lib in
theorem Tryz.slices_Contains_string (b off n c : Nat) (zs : List ByteArray) (x : ByteArray) (w : World) (hz : n ≤ zs.length) (hbig : n ≤ 9223372036854775807) (hc : ∀ j, j < zs.length → w.cell? ⟨b, off + j, none⟩ = some (.string (zs.getD j ByteArray.empty))) :
    Calls Tryz.prog 89 #[.slice (some ⟨b, off, none⟩) n c, .string x] w fun e w' => e = .returned (.bool (Lib.containsS (zs.take n) x)) ∧ w' = w := Any.slices_Contains_string Tryz.lays110 b off n c zs x w hz hbig hc
open Go.Lib in
theorem Tryz.slices_Contains_string_empty (a : Option Addr) (c : Nat) (x : ByteArray) (w : World) :
    Calls Tryz.prog 89 #[.slice a 0 c, .string x] w fun e w' => e = .returned (.bool false) ∧ w' = w := Any.slices_Contains_string_empty Tryz.lays110 a c x w
def Tryz.lays193_ren : Go.Shelf.Ren := ⟨fun | 193 => 88 | n => n, fun | 31 => 38 | 9 => 9 | 4 => 4 | 3 => 3 | 0 => 0 | n => n, fun | n => n⟩
theorem Tryz.lays193 : Go.Proofs.Lays.n193 Tryz.prog Tryz.lays193_ren := {
  mixed := by kernel_rfl
  f193 := Tryz.func88.trans (congrArg some (by kernel_rfl))
  t0 := Tryz.underlying0
  a0 := Tryz.isAgg0
  z0 := Tryz.sizeOf0
  v0 := Tryz.zeroValue0
  t3 := Tryz.underlying3
  a3 := Tryz.isAgg3
  z3 := Tryz.sizeOf3
  v3 := Tryz.zeroValue3
  t4 := Tryz.underlying4
  a4 := Tryz.isAgg4
  z4 := Tryz.sizeOf4
  v4 := Tryz.zeroValue4
  t9 := Tryz.underlying9
  a9 := Tryz.isAgg9
  z9 := Tryz.sizeOf9
  v9 := Tryz.zeroValue9
  t31 := Tryz.underlying38
  a31 := Tryz.isAgg38
  z31 := Tryz.sizeOf38
  v31 := Tryz.zeroValue38 }
open Go.RowKit Go.Lib in
theorem Tryz.slices_Equal_string (b1 o1 n c b2 o2 m d : Nat) (xs ys : List ByteArray) (w : World) (hx : n ≤ xs.length) (hy : m ≤ ys.length) (hbig : n ≤ 9223372036854775807) (hbig2 : m ≤ 9223372036854775807) (hc1 : ∀ j, j < xs.length → w.cell? ⟨b1, o1 + j, none⟩ = some (.string (xs.getD j ByteArray.empty))) (hc2 : ∀ j, j < ys.length → w.cell? ⟨b2, o2 + j, none⟩ = some (.string (ys.getD j ByteArray.empty))) :
    Calls Tryz.prog 88 #[.slice (some ⟨b1, o1, none⟩) n c, .slice (some ⟨b2, o2, none⟩) m d] w fun e w' => e = .returned (.bool (decide (xs.take n = ys.take m))) ∧ ∃ q, w' = w.drewN q := Any.slices_Equal_string Tryz.lays193 b1 o1 n c b2 o2 m d xs ys w hx hy hbig hbig2 hc1 hc2
open Go.RowKit Go.Lib in
theorem Tryz.slices_Equal_string_empty (a1 a2 : Option Addr) (c m d : Nat) (w : World) (hbig2 : m ≤ 9223372036854775807) :
    Calls Tryz.prog 88 #[.slice a1 0 c, .slice a2 m d] w fun e w' => e = .returned (.bool (decide (m = 0))) ∧ w' = w := Any.slices_Equal_string_empty Tryz.lays193 a1 a2 c m d w hbig2
def Tryz.laysNm215_ren : Go.Shelf.Ren := ⟨fun | 15 => 92 | n => n, fun | 22 => 35 | 3 => 3 | 4 => 4 | n => n, fun | n => n⟩
theorem Tryz.laysNm215 : Go.Proofs.Lays2.n15 Tryz.prog Tryz.laysNm215_ren := {
  mixed := by kernel_rfl
  f15 := Tryz.func92.trans (congrArg some (by kernel_rfl))
  t3 := Tryz.underlying3
  a3 := Tryz.isAgg3
  z3 := Tryz.sizeOf3
  v3 := Tryz.zeroValue3
  t4 := Tryz.underlying4
  a4 := Tryz.isAgg4
  z4 := Tryz.sizeOf4
  v4 := Tryz.zeroValue4
  t22 := Tryz.underlying35
  a22 := Tryz.isAgg35
  z22 := Tryz.sizeOf35
  v22 := Tryz.zeroValue35
  i3 := by kernel_rfl }
open Go.RowKit Go.Lib in
theorem Tryz.slices_Clone_int (b off n c : Nat) (zs : List Int) (w : World) (hz : n ≤ zs.length) (hbig : n * 8 ≤ 140737488355328) (hc : ∀ j, j < zs.length → w.cell? ⟨b, off + j, none⟩ = some (.int .i64 (zs.getD j 0))) :
    Calls Tryz.prog 92 #[.slice (some ⟨b, off, none⟩) n c] w fun e w' => ∃ v', e = .returned v' ∧ w'.ownsRow w.heap.size 3 1 v' n ((zs.take n).map (Value.int .i64)) ∧ v' ≠ .slice none 0 0 ∧ Below w.heap.size w w' := Any.slices_Clone_int Tryz.laysNm215 b off n c zs w hz hbig hc
open Go.RowKit Go.Lib in
theorem Tryz.slices_Clone_int_nil (n c : Nat) (w : World) :
    Calls Tryz.prog 92 #[.slice none n c] w fun e w' => e = .returned (.slice none 0 0) ∧ w' = w := Any.slices_Clone_int_nil Tryz.laysNm215 n c w
open Go.RowKit Go.Lib in
theorem Tryz.slices_Clone_int_zero (a : Addr) (c : Nat) (w : World) :
    Calls Tryz.prog 92 #[.slice (some a) 0 c] w fun e w' => ∃ v', e = .returned v' ∧ w'.ownsRow w.heap.size 3 1 v' 0 [] ∧ v' ≠ .slice none 0 0 ∧ Below w.heap.size w w' := Any.slices_Clone_int_zero Tryz.laysNm215 a c w
def Tryz.laysNm220_ren : Go.Shelf.Ren := ⟨fun | 20 => 147 | n => n, fun | 22 => 35 | 3 => 3 | 4 => 4 | 0 => 0 | n => n, fun | n => n⟩
theorem Tryz.laysNm220 : Go.Proofs.Lays2.n20 Tryz.prog Tryz.laysNm220_ren := {
  mixed := by kernel_rfl
  f20 := Tryz.func147.trans (congrArg some (by kernel_rfl))
  t0 := Tryz.underlying0
  a0 := Tryz.isAgg0
  z0 := Tryz.sizeOf0
  v0 := Tryz.zeroValue0
  t3 := Tryz.underlying3
  a3 := Tryz.isAgg3
  z3 := Tryz.sizeOf3
  v3 := Tryz.zeroValue3
  t4 := Tryz.underlying4
  a4 := Tryz.isAgg4
  z4 := Tryz.sizeOf4
  v4 := Tryz.zeroValue4
  t22 := Tryz.underlying35
  a22 := Tryz.isAgg35
  z22 := Tryz.sizeOf35
  v22 := Tryz.zeroValue35
  i3 := by kernel_rfl }
open Go.RowKit Go.Lib Go.Sort in
theorem Tryz.slices_Compact_int (blk off cap : Nat) (zs : List Int) (w : World) (hH : Holds (Value.int .i64) w blk off zs.toArray) (hsz : zs.length ≤ 9223372036854775807) (hcap : zs.length ≤ cap) :
    Calls Tryz.prog 147 #[.slice (some ⟨blk, off, none⟩) zs.length cap] w fun e w' => e = .returned (.slice (some ⟨blk, off, none⟩) (Lib.compact zs).length cap) ∧ ∃ q, w' = putRow (Value.int .i64) (Sort.ahead w q) blk off (Lib.compact zs ++ List.replicate (zs.length - (Lib.compact zs).length) 0).toArray := Any.slices_Compact_int Tryz.laysNm220 blk off cap zs w hH hsz hcap
open Go.RowKit Go.Lib Go.Sort in
theorem Tryz.slices_Compact_int_empty (a : Option Addr) (cap : Nat) (w : World) :
    Calls Tryz.prog 147 #[.slice a 0 cap] w fun e w' => e = .returned (.slice a 0 cap) ∧ w' = w := Any.slices_Compact_int_empty Tryz.laysNm220 a cap w
def Tryz.lays194_ren : Go.Shelf.Ren := ⟨fun | 194 => 145 | n => n, fun | 31 => 38 | 9 => 9 | 3 => 3 | 4 => 4 | 0 => 0 | n => n, fun | n => n⟩
theorem Tryz.lays194 : Go.Proofs.Lays.n194 Tryz.prog Tryz.lays194_ren := {
  mixed := by kernel_rfl
  f194 := Tryz.func145.trans (congrArg some (by kernel_rfl))
  t0 := Tryz.underlying0
  a0 := Tryz.isAgg0
  z0 := Tryz.sizeOf0
  v0 := Tryz.zeroValue0
  t3 := Tryz.underlying3
  a3 := Tryz.isAgg3
  z3 := Tryz.sizeOf3
  v3 := Tryz.zeroValue3
  t4 := Tryz.underlying4
  a4 := Tryz.isAgg4
  z4 := Tryz.sizeOf4
  v4 := Tryz.zeroValue4
  t9 := Tryz.underlying9
  a9 := Tryz.isAgg9
  z9 := Tryz.sizeOf9
  v9 := Tryz.zeroValue9
  t31 := Tryz.underlying38
  a31 := Tryz.isAgg38
  z31 := Tryz.sizeOf38
  v31 := Tryz.zeroValue38 }
open Go.RowKit Go.Lib Go.Sort in
theorem Tryz.slices_Compact_string (blk off cap : Nat) (zs : List (List UInt8)) (w : World) (hH : Holds encStr w blk off zs.toArray) (hsz : zs.length ≤ 9223372036854775807) (hcap : zs.length ≤ cap) :
    Calls Tryz.prog 145 #[.slice (some ⟨blk, off, none⟩) zs.length cap] w fun e w' => e = .returned (.slice (some ⟨blk, off, none⟩) (Lib.compact zs).length cap) ∧ ∃ q, w' = putRow encStr (Sort.ahead w q) blk off (Lib.compact zs ++ List.replicate (zs.length - (Lib.compact zs).length) []).toArray := Any.slices_Compact_string Tryz.lays194 blk off cap zs w hH hsz hcap
open Go.RowKit Go.Lib Go.Sort in
theorem Tryz.slices_Compact_string_empty (a : Option Addr) (cap : Nat) (w : World) :
    Calls Tryz.prog 145 #[.slice a 0 cap] w fun e w' => e = .returned (.slice a 0 cap) ∧ w' = w := Any.slices_Compact_string_empty Tryz.lays194 a cap w
open Go.RowKit Go.Sort in
theorem Tryz.slices_Sort_string_none (p : Option Addr) (cap : Nat) (w : World) :
    Calls Tryz.prog 144 #[.slice p 0 cap] w fun e w' => e = .returned (.tuple #[]) ∧ w' = w := Any.slices_Sort_string_none Tryz.lays190 p cap w
open Go.RowKit Go.Sort in
theorem Tryz.slices_Sort_int_none (p : Option Addr) (cap : Nat) (w : World) :
    Calls Tryz.prog 146 #[.slice p 0 cap] w fun e w' => e = .returned (.tuple #[]) ∧ w' = w := Any.slices_Sort_int_none Tryz.lays189 p cap w
open Go.RowKit Go.Lib in
theorem Tryz.slices_Equal_string_lens (a1 a2 : Option Addr) (n c m d : Nat) (w : World) (hnm : n ≠ m) :
    Calls Tryz.prog 88 #[.slice a1 n c, .slice a2 m d] w fun e w' => e = .returned (.bool false) ∧ w' = w := Any.slices_Equal_string_lens Tryz.lays193 a1 a2 n c m d w hnm
end Go.Proofs
